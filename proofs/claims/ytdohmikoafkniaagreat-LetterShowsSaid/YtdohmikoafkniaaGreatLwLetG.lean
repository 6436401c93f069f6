/- Letters, walked: Shown, Show. -/
import Derived.Test.YtdohmikoafkniaaGreatLwDlqD
import Derived.Test.YtdohmikoafkniaaGreatLwDlqE
set_option maxRecDepth 100000
set_option maxHeartbeats 8000000
namespace Go.Proofs.YtdohmikoafkniaaGreat
set_option linter.unusedSimpArgs false
set_option linter.unusedVariables false
open Go.RowKit
open Nt Sha
attribute [local go_sem] steady steadyUpon Cls same_cell anyW
attribute [local irreducible] wpHead wpTree wpHeadR Sha.sum chalOf ansN
section
variable (gr P Q G H : Nat) (w : World)
theorem lshown_any (A0 A1 A2 D:Option Addr) (l0 c0 l1 c1 l2 c2 m d y o z s:Nat) (prf:List (BitVec 8)) (h:GrpV w gr P Q G H) (h0:NatV w (.agg #[.slice A0 l0 c0]) y) (h1:NatV w (.agg #[.slice A1 l1 c1]) o) (h2:NatV w (.agg #[.slice A2 l2 c2]) z) (hS:Pt.ok w ⟨D,m,d,prf⟩) (hFy:Fit 32 y) (hFo:Fit 32 o) (hFz:Fit 32 z) (hGf:Fit 32 G) (hP:Fit 32 P) (hQ:Fit 32 Q) (hP2:2≤P) (hQ64:64<Q) (hz128:byteSz Q≤128) (hs:s≤1048576) (hm:m≤1000):
 Calls Tryz.prog 42 #[.pointer (some ⟨gr,0,none⟩),.agg #[.slice A0 l0 c0],.agg #[.slice A1 l1 c1],.agg #[.slice A2 l2 c2],.int .i64 (s:Int),.slice D m d] w fun e w'=>e=.returned (.bool (dverB P Q G o y z (sideB s) prf))∧Ext w w':=by
 have hin:[(s:Int)].all inB=true:=by
  simp only[List.all_cons,List.all_nil,inB,Bool.and_true,decide_eq_true_eq]
  omega
 obtain⟨t,ht⟩:∃t,t=dverB P Q G o y z (sideB s) prf:=⟨_,rfl⟩
 rw[←ht]
 have Ht:=hide ht
 have Hin:=hide hin
 have HS:=hide hS
 clear ht hin hS
 go_enter Tryz.func42,Tryz.ntmps42
 go_wp2_with fail
 refine name_w (fun X hX=>?_)
 have b7:Box X w.heap.size 34 (.slice A0 l0 c0):=by rw[hX];exact((Box.new _ _ _).alloc _).alloc _
 have b8:Box X (w.heap.size+1) 34 (.slice A1 l1 c1):=by rw[hX];exact(Box.new_at (by simp)).alloc _
 have b9:Box X (w.heap.size+1+1) 34 (.slice A2 l2 c2):=by rw[hX];exact Box.new_at (by simp)
 have hE:Ext w X:=by rw[hX];exact(((Upd.refl _ w).alloc _).alloc _).alloc _
 clear hX
 have hXd:Ext X X.drew:=uR_.drew
 have hED:=hE.trans hXd
 have q7:=fun y:Wd (Ext X.drew)=>y.ok.cellv (b7.ext hXd).cell
 have q8:=fun y:Wd (Ext X.drew)=>y.ok.cellv (b8.ext hXd).cell
 have q9:=fun y:Wd (Ext X.drew)=>y.ok.cellv (b9.ext hXd).cell
 refine wp_region_plan (Ext _) 20 [(false,0),(false,1),(false,2),(false,3),(true,4),(true,5),(false,6),(false,7),(false,8),(false,9),(false,11),(false,12),(false,13),(false,15),(false,17),(true,10),(false,14),(true,16),(true,18),(false,19)] (by kernel_rfl) (by kernel_rfl) (uR_) (fun hne=>?_)
 repeat (refine hq_ rfl fun K k=>?_;go_simp;refine k.out _ ?_;clear k K)
 refine head_l rfl ?_
 go_wp2_with fail
 refine kx_ (uR_.alloc _) ?_
 repeat (refine hq_ rfl fun K k=>?_;go_simp;refine k.out _ ?_;clear k K)
 refine head_l rfl ?_
 go_wp2_with (go_at_call 79;go_must (refine(lnumber_any _ _ 1 1 [(s:Int)] (Sl.new byZ X.drew _ [(s:Int)]) rfl (by omega)).mono ?_);rw[Hin.out];rintro e u1 ⟨rfl,hw1⟩;have hu1:Ext X.drew u1:=(by rw[hw1];exact uR_.alloc _);clear hw1)
 refine kx_ hu1 ?_
 repeat (refine hq_ rfl fun K k=>?_;go_simp;refine k.out _ ?_;clear k K)
 refine head_l rfl ?_
 go_wp2_with (go_at_call 24;go_must (refine(gG_any gr P Q G H _ (h.ext (hED.trans hu1))).mono ?_);rintro e u2 ⟨A7,l7,c7,rfl,hV7,hu2⟩;have hx2:=hu1.trans hu2)
 refine kx_ hx2 ?_
 repeat (refine hq_ rfl fun K k=>?_;go_simp;refine k.out _ ?_;clear k K)
 refine head_l rfl ?_
 go_wp2_with (go_at_call 112;go_must (refine(lside_any _ s hs).mono ?_);rintro e u3 ⟨A8,c8,rfl,hO8,hu3⟩;have hx3:=hx2.trans hu3;have hp8:=hide (Own.mpt hO8 (rfl:(sideB s).length=8));clear hO8)
 refine kx_ hx3 ?_
 repeat (refine hq_ rfl fun K k=>?_;go_simp;refine k.out _ ?_;clear k K)
 refine head_l rfl ?_
 go_wp2_with (go_at_call 50;go_must (refine(dver_any gr P Q G H 32 _ A7 A1 A0 A2 A8 D l7 c7 l1 c1 l0 c0 l2 c2 8 c8 m d G o y z (sideB s) prf (h.ext (hED.trans hx3)) (hV7.ext hu3) (h1.ext (hED.trans hx3)) (h0.ext (hED.trans hx3)) (h2.ext (hED.trans hx3)) hp8.out (HS.out.ext (hED.trans hx3)) hGf hFo hFy hFz hP hQ hP2 hQ64 hz128 (by omega) (by omega) (by omega)).mono ?_);rw[←Ht.out];rintro e u4 ⟨rfl,hu4⟩;have hx4:=hx3.trans hu4)
 refine kx_ hx4 ?_
 repeat (refine hq_ rfl fun K k=>?_;go_simp;refine k.out _ ?_;clear k K)
 refine head_nil ?_
 try simp only[dS_,dZ_]
 have hG:=hED.trans hx4
 clear q7 q8 q9
 go_wp2_with fail
 go_ret
 exact⟨rfl,hG⟩
def RetShw (w:World) (N z:Nat) (prf:List (BitVec 8)) (e:Ending) (w':World):Prop:=
 ∃A0 l0 c0 A c,e=.returned (.tuple #[.agg #[.slice A0 l0 c0],.slice A N c,.int .i64 0])∧NatV w' (.agg #[.slice A0 l0 c0]) z∧Pt.ok w' ⟨A,N,c,prf⟩∧Ext w w'
def RetShn (w:World) (e:Ending) (w':World):Prop:=e=.returned (.tuple #[.agg #[.slice none 0 0],.slice none 0 0,.int .i64 1])∧Ext w w'
def CutSw (V:World) (N z:Nat) (prf:List (BitVec 8)) (s13 s14 s15:Value) (wx:World):Prop:=
 ∃g E0 m0 d0 E1 m1 d1 E2 m2 d2 E3 m3 d3 AP cP,s13=.pointer (some ⟨g,0,none⟩)∧s14=.slice AP N cP∧s15=.int .i64 0∧Blk wx g 37 #[.slice E0 m0 d0,.slice E1 m1 d1,.slice E2 m2 d2,.slice E3 m3 d3]∧NatV wx (.agg #[.slice E3 m3 d3]) z∧Pt.ok wx ⟨AP,N,cP,prf⟩∧Ext V wx
theorem lshow_no (A0 A1:Option Addr) (l0 c0 l1 c1 x o:Nat) (s:Int) (h:GrpV w gr P Q G H) (h0:NatV w (.agg #[.slice A0 l0 c0]) x) (h1:NatV w (.agg #[.slice A1 l1 c1]) o) (hFx:Fit 32 x) (hFo:Fit 32 o) (hP:Fit 32 P) (hQ:Fit 32 Q) (hGf:Fit 32 G) (hno:(0<x∧x<Q)→memB P Q o=false):
 Calls Tryz.prog 45 #[.pointer (some ⟨gr,0,none⟩),.agg #[.slice A0 l0 c0],.agg #[.slice A1 l1 c1],.int .i64 s] w (RetShn w):=by
 go_enter Tryz.func45,Tryz.ntmps45
 obtain⟨W,hW⟩:∃W,W=((w.alloc (.cells #[.slice A0 l0 c0] 34)).alloc (.cells #[.slice A1 l1 c1] 34)).alloc (.cells #[.slice none 0 0] 34):=⟨_,rfl⟩
 have b5:Box W w.heap.size 34 (.slice A0 l0 c0):=by rw[hW];exact((Box.new _ _ _).alloc _).alloc _
 have b6:Box W (w.heap.size+1) 34 (.slice A1 l1 c1):=by rw[hW];exact(Box.new_at (by simp)).alloc _
 have b8:Box W (w.heap.size+1+1) 34 (.slice none 0 0):=by rw[hW];exact Box.new_at (by simp)
 have hE:Ext w W:=by rw[hW];exact(((Upd.refl _ w).alloc _).alloc _).alloc _
 have q5:=b5.cell
 have q6:=b6.cell
 rw[hW]at q5 q6
 go_wp2_with fail
 clear q5 q6
 rw[←hW]
 clear hW
 refine(lshared_no gr P Q G H 32 W A0 A1 l0 c0 l1 c1 x o (h.ext hE) (h0.ext hE) (h1.ext hE) hFx hFo hP hQ hGf (by omega) (by omega) hno).mono ?_
 rintro e w1 ⟨A2,l2,c2,rfl, -,hU1⟩
 have hE2:Ext W (w1.alloc (.cells #[.slice A2 l2 c2] 34)):=hU1.alloc _
 have b8n:=b8.ext hE2
 have z2:=b8n.cell
 have z3:=b8n.frozen
 have hG:=hE.trans hE2
 go_wp2_with fail
 have q:=(b8n.set (.slice none 0 0)).cell
 exact bodyPost_ret (v:=.tuple #[.agg #[.slice none 0 0],.slice none 0 0,.int .i64 1]) (by simp[results,Tryz.results45,go_sem,q]) rfl ⟨rfl,hG.setCell (p:=⟨w.heap.size+1+1,0,none⟩) (.inr (by simp;omega)) _⟩
theorem lshow_nil (A0 A1:Option Addr) (l0 c0 l1 c1:Nat) (s:Int):
 Calls Tryz.prog 45 #[.pointer none,.agg #[.slice A0 l0 c0],.agg #[.slice A1 l1 c1],.int .i64 s] w (RetShn w):=by
 go_enter Tryz.func45,Tryz.ntmps45
 obtain⟨W,hW⟩:∃W,W=((w.alloc (.cells #[.slice A0 l0 c0] 34)).alloc (.cells #[.slice A1 l1 c1] 34)).alloc (.cells #[.slice none 0 0] 34):=⟨_,rfl⟩
 have b5:Box W w.heap.size 34 (.slice A0 l0 c0):=by rw[hW];exact((Box.new _ _ _).alloc _).alloc _
 have b6:Box W (w.heap.size+1) 34 (.slice A1 l1 c1):=by rw[hW];exact(Box.new_at (by simp)).alloc _
 have b8:Box W (w.heap.size+1+1) 34 (.slice none 0 0):=by rw[hW];exact Box.new_at (by simp)
 have hE:Ext w W:=by rw[hW];exact(((Upd.refl _ w).alloc _).alloc _).alloc _
 have q5:=b5.cell
 have q6:=b6.cell
 rw[hW]at q5 q6
 go_wp2_with fail
 clear q5 q6
 rw[←hW]
 clear hW
 refine(lshared_nil W A0 A1 l0 c0 l1 c1).mono ?_
 rintro e w1 ⟨rfl,hU1⟩
 have hE2:Ext W (w1.alloc (.cells #[.slice none 0 0] 34)):=hU1.alloc _
 have b8n:=b8.ext hE2
 have z2:=b8n.cell
 have z3:=b8n.frozen
 have hG:=hE.trans hE2
 go_wp2_with fail
 have q:=(b8n.set (.slice none 0 0)).cell
 exact bodyPost_ret (v:=.tuple #[.agg #[.slice none 0 0],.slice none 0 0,.int .i64 1]) (by simp[results,Tryz.results45,go_sem,q]) rfl ⟨rfl,hG.setCell (p:=⟨w.heap.size+1+1,0,none⟩) (.inr (by simp;omega)) _⟩
theorem lshow_in (A0 A1:Option Addr) (l0 c0 l1 c1 x o:Nat) (s:Int) (h:GrpV w gr P Q G H) (h0:NatV w (.agg #[.slice A0 l0 c0]) x) (h1:NatV w (.agg #[.slice A1 l1 c1]) o) (hFx:Fit 32 x) (hFo:Fit 32 o) (hP:Fit 32 P) (hQ:Fit 32 Q) (hGf:Fit 32 G) (hx0:0<x) (hxQ:x<Q) (ho:memB P Q o=true) (hin:inB s=false):
 Calls Tryz.prog 45 #[.pointer (some ⟨gr,0,none⟩),.agg #[.slice A0 l0 c0],.agg #[.slice A1 l1 c1],.int .i64 s] w (RetShn w):=by
 have hall:[s].all inB=false:=by simp[hin]
 have Hin:=hide hall
 clear hall hin
 go_enter Tryz.func45,Tryz.ntmps45
 obtain⟨W,hW⟩:∃W,W=((w.alloc (.cells #[.slice A0 l0 c0] 34)).alloc (.cells #[.slice A1 l1 c1] 34)).alloc (.cells #[.slice none 0 0] 34):=⟨_,rfl⟩
 have b5:Box W w.heap.size 34 (.slice A0 l0 c0):=by rw[hW];exact((Box.new _ _ _).alloc _).alloc _
 have b6:Box W (w.heap.size+1) 34 (.slice A1 l1 c1):=by rw[hW];exact(Box.new_at (by simp)).alloc _
 have b8:Box W (w.heap.size+1+1) 34 (.slice none 0 0):=by rw[hW];exact Box.new_at (by simp)
 have hE:Ext w W:=by rw[hW];exact(((Upd.refl _ w).alloc _).alloc _).alloc _
 have q5:=b5.cell
 have q6:=b6.cell
 rw[hW]at q5 q6
 go_wp2_with fail
 clear q5 q6
 rw[←hW]
 clear hW
 refine(lshared_any gr P Q G H 32 W A0 A1 l0 c0 l1 c1 x o (h.ext hE) (h0.ext hE) (h1.ext hE) hFx hFo hP hQ hGf (by omega) (by omega) hx0 hxQ ho).mono ?_
 rintro e w1 ⟨A2,l2,c2,rfl, -,hU1⟩
 have hE1:Ext W (w1.alloc (.cells #[.slice A2 l2 c2] 34)):=hU1.alloc _
 go_wp2_with fail
 refine name_c (fun V hV=>?_)
 have hSl:Sl byZ V (some ⟨w1.heap.size+1,0,none⟩) [s]:=by rw[hV];exact Sl.new_at byZ [s] (by simp) rfl
 have hE2:Ext W V:=by rw[hV];exact hE1.alloc _
 clear hV
 refine(lnumber_any V _ 1 1 [s] hSl rfl (by omega)).mono ?_
 rw[Hin.out]
 rintro e w2 ⟨rfl,rfl⟩
 have b8n:=b8.ext hE2
 have z2:=b8n.cell
 have z3:=b8n.frozen
 have hG:=hE.trans hE2
 go_wp2_with fail
 have q:=(b8n.set (.slice none 0 0)).cell
 exact bodyPost_ret (v:=.tuple #[.agg #[.slice none 0 0],.slice none 0 0,.int .i64 1]) (by simp[results,Tryz.results45,go_sem,q]) rfl ⟨rfl,hG.setCell (p:=⟨w.heap.size+1+1,0,none⟩) (.inr (by simp;omega)) _⟩
theorem lshow_any (A0 A1:Option Addr) (l0 c0 l1 c1 x o s:Nat) (h:GrpV w gr P Q G H) (h0:NatV w (.agg #[.slice A0 l0 c0]) x) (h1:NatV w (.agg #[.slice A1 l1 c1]) o) (hFx:Fit 32 x) (hFo:Fit 32 o) (hP:Fit 32 P) (hQ:Fit 32 Q) (hGf:Fit 32 G) (hP2:2≤P) (hQ64:64<Q) (hx0:0<x) (hxQ:x<Q) (hmG:memB P Q G=true) (ho:memB P Q o=true) (hs:s≤1048576):
 Calls Tryz.prog 45 #[.pointer (some ⟨gr,0,none⟩),.agg #[.slice A0 l0 c0],.agg #[.slice A1 l1 c1],.int .i64 (s:Int)] w (RetShw w (2*byteSz Q) (o^x % P) (pvB P Q G o x (sideB s))):=by
 have hin:[(s:Int)].all inB=true:=by
  simp only[List.all_cons,List.all_nil,inB,Bool.and_true,decide_eq_true_eq]
  omega
 have Hin:=hide hin
 obtain⟨N,hN⟩:∃N,N=2*byteSz Q:=⟨_,rfl⟩
 obtain⟨z,hz⟩:∃y,y=o^x % P:=⟨_,rfl⟩
 obtain⟨prf,hprf⟩:∃y,y=pvB P Q G o x (sideB s):=⟨_,rfl⟩
 rw[←hN,←hz,←hprf]
 have HN:=hide hN
 have Hz:=hide hz
 have Hprf:=hide hprf
 have Ho:=hide ho
 have HmG:=hide hmG
 clear hin hN hz hprf ho hmG
 go_enter Tryz.func45,Tryz.ntmps45
 obtain⟨W,hW⟩:∃W,W=((w.alloc (.cells #[.slice A0 l0 c0] 34)).alloc (.cells #[.slice A1 l1 c1] 34)).alloc (.cells #[.slice none 0 0] 34):=⟨_,rfl⟩
 have b5:Box W w.heap.size 34 (.slice A0 l0 c0):=by rw[hW];exact((Box.new _ _ _).alloc _).alloc _
 have b6:Box W (w.heap.size+1) 34 (.slice A1 l1 c1):=by rw[hW];exact(Box.new_at (by simp)).alloc _
 have b8:Box W (w.heap.size+1+1) 34 (.slice none 0 0):=by rw[hW];exact Box.new_at (by simp)
 have hE:Ext w W:=by rw[hW];exact(((Upd.refl _ w).alloc _).alloc _).alloc _
 have q5:=b5.cell
 have q6:=b6.cell
 rw[hW]at q5 q6
 go_wp2_with fail
 clear q5 q6
 rw[←hW]
 clear hW
 refine(lshared_any gr P Q G H 32 W A0 A1 l0 c0 l1 c1 x o (h.ext hE) (h0.ext hE) (h1.ext hE) hFx hFo hP hQ hGf (by omega) (by omega) hx0 hxQ Ho.out).mono ?_
 rintro e w1 ⟨A2,l2,c2,rfl, -,hU1⟩
 have hE1:Ext W (w1.alloc (.cells #[.slice A2 l2 c2] 34)):=hU1.alloc _
 go_wp2_with fail
 refine name_c (fun V hV=>?_)
 have hSl:Sl byZ V (some ⟨w1.heap.size+1,0,none⟩) [(s:Int)]:=by rw[hV];exact Sl.new_at byZ [(s:Int)] (by simp) rfl
 have hE2:Ext W V:=by rw[hV];exact hE1.alloc _
 clear hV
 refine(lnumber_any V _ 1 1 [(s:Int)] hSl rfl (by omega)).mono ?_
 rw[Hin.out]
 rintro e w2 ⟨rfl,rfl⟩
 have b5x:=b5.ext hE2
 have b6x:=b6.ext hE2
 have b8x:=b8.ext hE2
 have hEX:=hE.trans hE2
 clear hE1 hU1 hSl b5 b6 b8 hE2
 go_wp2_with fail
 refine name_w (fun X hX=>?_)
 subst hX
 go_cut [13,14,15] (fun s13 s14 s15 wx=>CutSw X N z prf s13 s14 s15 wx)
 case first=>
  have hXd:Ext X X.drew:=uR_.drew
  have q5:=fun y:Wd (Ext X.drew)=>y.ok.cellv (b5x.ext hXd).cell
  have q6:=fun y:Wd (Ext X.drew)=>y.ok.cellv (b6x.ext hXd).cell
  have hGd:=h.ext (hEX.trans hXd)
  have h0d:=h0.ext (hEX.trans hXd)
  have h1d:=h1.ext (hEX.trans hXd)
  have h0E:Ext X.drew X.drew:=uR_
  refine wp_region_tree (Ext X.drew) 15 (.q 0 (.q 1 (.q 3 (.q 4 (.q 5 (.two 2 12 (.two 6 12 (.two 7 12 (.q 8 (.q 9 (.q 10 (.q 11 (.l 12 (.l 13 (.q 14 .done))))))) (.l 7 (.q 8 (.q 9 (.q 10 (.q 11 (.l 13 (.q 14 .done)))))))) (.l 6 (.l 7 (.q 8 (.q 9 (.q 10 (.q 11 (.l 13 (.q 14 .done))))))))) (.l 2 (.l 6 (.l 7 (.q 8 (.q 9 (.q 10 (.q 11 (.l 13 (.q 14 .done))))))))))))))) (by kernel_rfl) (by kernel_rfl) (uR_) (fun hne=>?_)
  repeat (refine tree_q rfl (fun K hK=>?_);go_simp;refine hK _ ?_;clear hK K)
  refine tree_two rfl rfl ?_ ?_
  · skip
    go_wp2_with (go_at_call 24;go_must (refine(gG_any gr P Q G H _ hGd).mono ?_);rintro e u2 ⟨A4,l4,c4,rfl,hV4,hu2⟩;have hx2:=Upd.trans h0E hu2)
    refine⟨_,fun _ h=>h,⟨⟨_,hx2⟩,rfl⟩,?_⟩
    repeat (refine tree_q rfl (fun K hK=>?_);go_simp;refine hK _ ?_;clear hK K)
    refine tree_two rfl rfl ?_ ?_
    · skip
      go_wp2_with (go_at_call 112;go_must (refine(lside_any _ s hs).mono ?_);rintro e u4 ⟨A6,c6,rfl,hO6,hu4⟩;have hp6:=Own.mpt hO6 (rfl:(sideB s).length=8);clear hO6;have hx6:=Upd.trans hx2 hu4)
      refine⟨_,fun _ h=>h,⟨⟨_,hx6⟩,rfl⟩,?_⟩
      repeat (refine tree_q rfl (fun K hK=>?_);go_simp;refine hK _ ?_;clear hK K)
      refine tree_two rfl rfl ?_ ?_
      · skip
        go_wp2_with (go_at_call 12;go_must (refine(dprove_any gr P Q G H 32 _ _ _ _ A6 _ _ _ _ _ _ 8 c6 G o x (sideB s) ((hGd.ext hu2).ext hu4) (hV4.ext hu4) ((h1d.ext hu2).ext hu4) ((h0d.ext hu2).ext hu4) hp6 hGf hFo hFx hP hQ hP2 hQ64 (by omega) (by omega) (by omega) HmG.out Ho.out hxQ).mono ?_);rw[←HN.out,←Hprf.out,←Hz.out];rintro e u6 ⟨E0,i0,j0,E1,i1,j1,E2,i2,j2,E3,i3,j3,AP,cP,rfl, -, -, -,k3,hlp,hOp,hu6⟩;have hpP:=Own.mpt hOp hlp;clear hOp;have hx7:=Upd.trans hx6 hu6)
        refine⟨_,fun _ h=>h,⟨⟨_,hx7⟩,rfl⟩,?_⟩
        repeat (refine tree_q rfl (fun K hK=>?_);go_simp;refine hK _ ?_;clear hK K)
        refine tree_l rfl ?_
        go_wp2_with fail
        have haE:=Upd.alloc hx7 (.cells #[.slice none 0 0,.slice none 0 0,.slice none 0 0,.slice none 0 0] 37)
        have haB:Blk (World.alloc u6 (.cells #[.slice none 0 0,.slice none 0 0,.slice none 0 0,.slice none 0 0] 37)) u6.heap.size 37 #[.slice none 0 0,.slice none 0 0,.slice none 0 0,.slice none 0 0]:=Blk.new u6 37 #[.slice none 0 0,.slice none 0 0,.slice none 0 0,.slice none 0 0]
        have haG:X.drew.heap.size≤u6.heap.size:=Upd.size hx7
        have haX:Ext u6 (World.alloc u6 (.cells #[.slice none 0 0,.slice none 0 0,.slice none 0 0,.slice none 0 0] 37)):=uR_.alloc _
        refine⟨_,fun _ h=>h,⟨⟨_,haE⟩,rfl⟩,?_⟩
        repeat (refine tree_q rfl (fun K hK=>?_);go_simp;refine hK _ ?_;clear hK K)
        have hB4:=Blk.new u6 37 #[.slice E0 i0 j0,.slice E1 i1 j1,.slice E2 i2 j2,.slice E3 i3 j3]
        have hE4:=Upd.alloc hx7 (.cells #[.slice E0 i0 j0,.slice E1 i1 j1,.slice E2 i2 j2,.slice E3 i3 j3] 37)
        have hX4:Ext u6 (World.alloc u6 (.cells #[.slice E0 i0 j0,.slice E1 i1 j1,.slice E2 i2 j2,.slice E3 i3 j3] 37)):=uR_.alloc _
        refine tree_l rfl ?_
        go_wp2_with fail
        refine⟨_,fun _ h=>h,⟨⟨_,hE4⟩,rfl⟩,?_⟩
        repeat (refine tree_q rfl (fun K hK=>?_);go_simp;refine hK _ ?_;clear hK K)
        refine tree_done ?_
        try simp only[dS_,dZ_]
        go_wp2_with fail
        go_meet
        exact⟨_,E0,i0,j0,E1,i1,j1,E2,i2,j2,E3,i3,j3,AP,cP,rfl,rfl,rfl,hB4,(k3.ext hX4),⟨(hpP.1.ext hX4),hpP.2⟩,hXd.trans hE4⟩
      · skip
        go_wp2_with fail
        have haE:=Upd.alloc hx6 (.cells #[.slice none 0 0,.slice none 0 0,.slice none 0 0,.slice none 0 0] 37)
        have haB:Blk (World.alloc u4 (.cells #[.slice none 0 0,.slice none 0 0,.slice none 0 0,.slice none 0 0] 37)) u4.heap.size 37 #[.slice none 0 0,.slice none 0 0,.slice none 0 0,.slice none 0 0]:=Blk.new u4 37 #[.slice none 0 0,.slice none 0 0,.slice none 0 0,.slice none 0 0]
        have haG:X.drew.heap.size≤u4.heap.size:=Upd.size hx6
        have haX:Ext u4 (World.alloc u4 (.cells #[.slice none 0 0,.slice none 0 0,.slice none 0 0,.slice none 0 0] 37)):=uR_.alloc _
        refine⟨_,fun _ h=>h,⟨⟨_,haE⟩,rfl⟩,?_⟩
        repeat (refine tree_q rfl (fun K hK=>?_);go_simp;refine hK _ ?_;clear hK K)
        refine tree_l rfl ?_
        go_wp2_with (go_at_call 12;go_must (refine(dprove_any gr P Q G H 32 _ _ _ _ A6 _ _ _ _ _ _ 8 c6 G o x (sideB s) (((hGd.ext hu2).ext hu4).ext haX) ((hV4.ext hu4).ext haX) (((h1d.ext hu2).ext hu4).ext haX) (((h0d.ext hu2).ext hu4).ext haX) (hp6.ext haX) hGf hFo hFx hP hQ hP2 hQ64 (by omega) (by omega) (by omega) HmG.out Ho.out hxQ).mono ?_);rw[←HN.out,←Hprf.out,←Hz.out];rintro e u6 ⟨E0,i0,j0,E1,i1,j1,E2,i2,j2,E3,i3,j3,AP,cP,rfl, -, -, -,k3,hlp,hOp,hu6⟩;have hpP:=Own.mpt hOp hlp;clear hOp;have hx7:=Upd.trans haE hu6)
        refine⟨_,fun _ h=>h,⟨⟨_,hx7⟩,rfl⟩,?_⟩
        repeat (refine tree_q rfl (fun K hK=>?_);go_simp;refine hK _ ?_;clear hK K)
        have y0:=(haB.ext hu6).at 0 rfl
        have x0:=(haB.ext hu6).frozen 0
        have y1:=(haB.ext hu6).at 1 rfl
        have x1:=(haB.ext hu6).frozen 1
        have y2:=(haB.ext hu6).at 2 rfl
        have x2:=(haB.ext hu6).frozen 2
        have y3:=(haB.ext hu6).at 3 rfl
        have x3:=(haB.ext hu6).frozen 3
        have hB4:=blk4 (haB.ext hu6) (.slice E0 i0 j0) (.slice E1 i1 j1) (.slice E2 i2 j2) (.slice E3 i3 j3)
        have hE4:=ext4 hx7 haG (.slice E0 i0 j0) (.slice E1 i1 j1) (.slice E2 i2 j2) (.slice E3 i3 j3)
        refine tree_l rfl ?_
        go_wp2_with fail
        refine⟨_,fun _ h=>h,⟨⟨_,hE4⟩,rfl⟩,?_⟩
        repeat (refine tree_q rfl (fun K hK=>?_);go_simp;refine hK _ ?_;clear hK K)
        refine tree_done ?_
        try simp only[dS_,dZ_]
        go_wp2_with fail
        go_meet
        exact⟨_,E0,i0,j0,E1,i1,j1,E2,i2,j2,E3,i3,j3,AP,cP,rfl,rfl,rfl,hB4,(nat4 (b0:=E0) (m0:=i0) (d0:=j0) (b1:=E1) (m1:=i1) (d1:=j1) (b2:=E2) (m2:=i2) (d2:=j2) (b3:=E3) (m3:=i3) (d3:=j3) k3 (haB.ext hu6)),⟨(sl4 (b0:=E0) (m0:=i0) (d0:=j0) (b1:=E1) (m1:=i1) (d1:=j1) (b2:=E2) (m2:=i2) (d2:=j2) (b3:=E3) (m3:=i3) (d3:=j3) hpP.1 (haB.ext hu6)),hpP.2⟩,hXd.trans hE4⟩
    · skip
      go_wp2_with fail
      have haE:=Upd.alloc hx2 (.cells #[.slice none 0 0,.slice none 0 0,.slice none 0 0,.slice none 0 0] 37)
      have haB:Blk (World.alloc u2 (.cells #[.slice none 0 0,.slice none 0 0,.slice none 0 0,.slice none 0 0] 37)) u2.heap.size 37 #[.slice none 0 0,.slice none 0 0,.slice none 0 0,.slice none 0 0]:=Blk.new u2 37 #[.slice none 0 0,.slice none 0 0,.slice none 0 0,.slice none 0 0]
      have haG:X.drew.heap.size≤u2.heap.size:=Upd.size hx2
      have haX:Ext u2 (World.alloc u2 (.cells #[.slice none 0 0,.slice none 0 0,.slice none 0 0,.slice none 0 0] 37)):=uR_.alloc _
      refine⟨_,fun _ h=>h,⟨⟨_,haE⟩,rfl⟩,?_⟩
      repeat (refine tree_q rfl (fun K hK=>?_);go_simp;refine hK _ ?_;clear hK K)
      refine tree_l rfl ?_
      go_wp2_with (go_at_call 112;go_must (refine(lside_any _ s hs).mono ?_);rintro e u4 ⟨A6,c6,rfl,hO6,hu4⟩;have hp6:=Own.mpt hO6 (rfl:(sideB s).length=8);clear hO6;have hx6:=Upd.trans haE hu4)
      refine⟨_,fun _ h=>h,⟨⟨_,hx6⟩,rfl⟩,?_⟩
      repeat (refine tree_q rfl (fun K hK=>?_);go_simp;refine hK _ ?_;clear hK K)
      refine tree_l rfl ?_
      go_wp2_with (go_at_call 12;go_must (refine(dprove_any gr P Q G H 32 _ _ _ _ A6 _ _ _ _ _ _ 8 c6 G o x (sideB s) (((hGd.ext hu2).ext haX).ext hu4) ((hV4.ext haX).ext hu4) (((h1d.ext hu2).ext haX).ext hu4) (((h0d.ext hu2).ext haX).ext hu4) hp6 hGf hFo hFx hP hQ hP2 hQ64 (by omega) (by omega) (by omega) HmG.out Ho.out hxQ).mono ?_);rw[←HN.out,←Hprf.out,←Hz.out];rintro e u6 ⟨E0,i0,j0,E1,i1,j1,E2,i2,j2,E3,i3,j3,AP,cP,rfl, -, -, -,k3,hlp,hOp,hu6⟩;have hpP:=Own.mpt hOp hlp;clear hOp;have hx7:=Upd.trans hx6 hu6)
      refine⟨_,fun _ h=>h,⟨⟨_,hx7⟩,rfl⟩,?_⟩
      repeat (refine tree_q rfl (fun K hK=>?_);go_simp;refine hK _ ?_;clear hK K)
      have y0:=((haB.ext hu4).ext hu6).at 0 rfl
      have x0:=((haB.ext hu4).ext hu6).frozen 0
      have y1:=((haB.ext hu4).ext hu6).at 1 rfl
      have x1:=((haB.ext hu4).ext hu6).frozen 1
      have y2:=((haB.ext hu4).ext hu6).at 2 rfl
      have x2:=((haB.ext hu4).ext hu6).frozen 2
      have y3:=((haB.ext hu4).ext hu6).at 3 rfl
      have x3:=((haB.ext hu4).ext hu6).frozen 3
      have hB4:=blk4 ((haB.ext hu4).ext hu6) (.slice E0 i0 j0) (.slice E1 i1 j1) (.slice E2 i2 j2) (.slice E3 i3 j3)
      have hE4:=ext4 hx7 haG (.slice E0 i0 j0) (.slice E1 i1 j1) (.slice E2 i2 j2) (.slice E3 i3 j3)
      refine tree_l rfl ?_
      go_wp2_with fail
      refine⟨_,fun _ h=>h,⟨⟨_,hE4⟩,rfl⟩,?_⟩
      repeat (refine tree_q rfl (fun K hK=>?_);go_simp;refine hK _ ?_;clear hK K)
      refine tree_done ?_
      try simp only[dS_,dZ_]
      go_wp2_with fail
      go_meet
      exact⟨_,E0,i0,j0,E1,i1,j1,E2,i2,j2,E3,i3,j3,AP,cP,rfl,rfl,rfl,hB4,(nat4 (b0:=E0) (m0:=i0) (d0:=j0) (b1:=E1) (m1:=i1) (d1:=j1) (b2:=E2) (m2:=i2) (d2:=j2) (b3:=E3) (m3:=i3) (d3:=j3) k3 ((haB.ext hu4).ext hu6)),⟨(sl4 (b0:=E0) (m0:=i0) (d0:=j0) (b1:=E1) (m1:=i1) (d1:=j1) (b2:=E2) (m2:=i2) (d2:=j2) (b3:=E3) (m3:=i3) (d3:=j3) hpP.1 ((haB.ext hu4).ext hu6)),hpP.2⟩,hXd.trans hE4⟩
  · skip
    go_wp2_with fail
    have haE:=Upd.alloc h0E (.cells #[.slice none 0 0,.slice none 0 0,.slice none 0 0,.slice none 0 0] 37)
    have haB:Blk (World.alloc X.drew (.cells #[.slice none 0 0,.slice none 0 0,.slice none 0 0,.slice none 0 0] 37)) X.heap.size 37 #[.slice none 0 0,.slice none 0 0,.slice none 0 0,.slice none 0 0]:=Blk.new X.drew 37 #[.slice none 0 0,.slice none 0 0,.slice none 0 0,.slice none 0 0]
    have haG:X.drew.heap.size≤X.heap.size:=Nat.le_refl _
    have haX:Ext X.drew (World.alloc X.drew (.cells #[.slice none 0 0,.slice none 0 0,.slice none 0 0,.slice none 0 0] 37)):=uR_.alloc _
    refine⟨_,fun _ h=>h,⟨⟨_,haE⟩,rfl⟩,?_⟩
    repeat (refine tree_q rfl (fun K hK=>?_);go_simp;refine hK _ ?_;clear hK K)
    refine tree_l rfl ?_
    go_wp2_with (go_at_call 24;go_must (refine(gG_any gr P Q G H _ (hGd.ext haX)).mono ?_);rintro e u2 ⟨A4,l4,c4,rfl,hV4,hu2⟩;have hx2:=Upd.trans haE hu2)
    refine⟨_,fun _ h=>h,⟨⟨_,hx2⟩,rfl⟩,?_⟩
    repeat (refine tree_q rfl (fun K hK=>?_);go_simp;refine hK _ ?_;clear hK K)
    refine tree_l rfl ?_
    go_wp2_with (go_at_call 112;go_must (refine(lside_any _ s hs).mono ?_);rintro e u4 ⟨A6,c6,rfl,hO6,hu4⟩;have hp6:=Own.mpt hO6 (rfl:(sideB s).length=8);clear hO6;have hx6:=Upd.trans hx2 hu4)
    refine⟨_,fun _ h=>h,⟨⟨_,hx6⟩,rfl⟩,?_⟩
    repeat (refine tree_q rfl (fun K hK=>?_);go_simp;refine hK _ ?_;clear hK K)
    refine tree_l rfl ?_
    go_wp2_with (go_at_call 12;go_must (refine(dprove_any gr P Q G H 32 _ _ _ _ A6 _ _ _ _ _ _ 8 c6 G o x (sideB s) (((hGd.ext haX).ext hu2).ext hu4) (hV4.ext hu4) (((h1d.ext haX).ext hu2).ext hu4) (((h0d.ext haX).ext hu2).ext hu4) hp6 hGf hFo hFx hP hQ hP2 hQ64 (by omega) (by omega) (by omega) HmG.out Ho.out hxQ).mono ?_);rw[←HN.out,←Hprf.out,←Hz.out];rintro e u6 ⟨E0,i0,j0,E1,i1,j1,E2,i2,j2,E3,i3,j3,AP,cP,rfl, -, -, -,k3,hlp,hOp,hu6⟩;have hpP:=Own.mpt hOp hlp;clear hOp;have hx7:=Upd.trans hx6 hu6)
    refine⟨_,fun _ h=>h,⟨⟨_,hx7⟩,rfl⟩,?_⟩
    repeat (refine tree_q rfl (fun K hK=>?_);go_simp;refine hK _ ?_;clear hK K)
    have y0:=(((haB.ext hu2).ext hu4).ext hu6).at 0 rfl
    have x0:=(((haB.ext hu2).ext hu4).ext hu6).frozen 0
    have y1:=(((haB.ext hu2).ext hu4).ext hu6).at 1 rfl
    have x1:=(((haB.ext hu2).ext hu4).ext hu6).frozen 1
    have y2:=(((haB.ext hu2).ext hu4).ext hu6).at 2 rfl
    have x2:=(((haB.ext hu2).ext hu4).ext hu6).frozen 2
    have y3:=(((haB.ext hu2).ext hu4).ext hu6).at 3 rfl
    have x3:=(((haB.ext hu2).ext hu4).ext hu6).frozen 3
    have hB4:=blk4 (((haB.ext hu2).ext hu4).ext hu6) (.slice E0 i0 j0) (.slice E1 i1 j1) (.slice E2 i2 j2) (.slice E3 i3 j3)
    have hE4:=ext4 hx7 haG (.slice E0 i0 j0) (.slice E1 i1 j1) (.slice E2 i2 j2) (.slice E3 i3 j3)
    refine tree_l rfl ?_
    go_wp2_with fail
    refine⟨_,fun _ h=>h,⟨⟨_,hE4⟩,rfl⟩,?_⟩
    repeat (refine tree_q rfl (fun K hK=>?_);go_simp;refine hK _ ?_;clear hK K)
    refine tree_done ?_
    try simp only[dS_,dZ_]
    go_wp2_with fail
    go_meet
    exact⟨_,E0,i0,j0,E1,i1,j1,E2,i2,j2,E3,i3,j3,AP,cP,rfl,rfl,rfl,hB4,(nat4 (b0:=E0) (m0:=i0) (d0:=j0) (b1:=E1) (m1:=i1) (d1:=j1) (b2:=E2) (m2:=i2) (d2:=j2) (b3:=E3) (m3:=i3) (d3:=j3) k3 (((haB.ext hu2).ext hu4).ext hu6)),⟨(sl4 (b0:=E0) (m0:=i0) (d0:=j0) (b1:=E1) (m1:=i1) (d1:=j1) (b2:=E2) (m2:=i2) (d2:=j2) (b3:=E3) (m3:=i3) (d3:=j3) hpP.1 (((haB.ext hu2).ext hu4).ext hu6)),hpP.2⟩,hXd.trans hE4⟩
 case rest=>
  obtain⟨g13,E0,i0,j0,E1,i1,j1,E2,i2,j2,E3,i3,j3,AP,cP,rfl,rfl,rfl,b13,hK3,hPT,hXY⟩:=hcut
  have b8y:=b8x.ext hXY
  have hEY:=hEX.trans hXY
  have y3:=b13.at 3 rfl
  have z2:=b8y.cell
  have z3:=b8y.frozen
  clear b5x b6x b8x hEX hXY
  go_wp2_with fail
  have q:=(b8y.set (.slice E3 i3 j3)).cell
  exact bodyPost_ret (v:=.tuple #[.agg #[.slice E3 i3 j3],.slice AP N cP,.int .i64 0]) (by simp[results,Tryz.results45,go_sem,q]) rfl ⟨_,_,_,_,_,rfl,hK3.far z2,⟨hPT.1.far z2 (fun _ h=>by cases h),hPT.2⟩,hEY.setCell (p:=⟨w.heap.size+1+1,0,none⟩) (.inr (by simp;omega)) _⟩
end
end Go.Proofs.YtdohmikoafkniaaGreat
