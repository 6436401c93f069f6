/- Signatures of the document, walked. -/
import Derived.Test.YtbhhjfhepkbfgaaGreatWsMonoF
namespace Go.Proofs.YtbhhjfhepkbfgaaGreat
set_option linter.unusedSimpArgs false
set_option linter.unusedVariables false
open Go.RowKit
open Nt Sha
attribute [local go_sem] steady steadyUpon Cls same_cell
attribute [local irreducible] wpHead wpTree sum chalOf
section
variable (k : Nat) (w : World) (v : Value) (P Q G H : Nat)
set_option maxRecDepth 100000 in
set_option maxHeartbeats 1000000 in
theorem rwidth_any (h:RGrpV w v P Q G H) (hF:blen Q≤1000000):Calls Tryz.prog 48 #[v] w fun e w'=>e=.returned (.int .i64 (byteSz Q:Nat))∧Ext w w':=by
  obtain⟨A1,l1,c1,A2,l2,c2,A3,l3,c3,A4,l4,c4,rfl,h1,h2,h3,h4⟩:=h
  have hlen:=h2.len
  have hF':=hF
  rw[←hlen]at hF'
  have hLb:=byteSz_int Q
  rw[←hlen]at hLb
  obtain⟨z,hz⟩:∃z,z=byteSz Q:=⟨_,rfl⟩
  rw[←hz]at hLb ⊢
  clear hlen hz
  go_enter Tryz.func48,Tryz.ntmps48
  have b1:Blk (w.alloc (.cells #[.slice A1 l1 c1,.slice A2 l2 c2,.slice A3 l3 c3,.slice A4 l4 c4] 34)) w.heap.size 34 #[.slice A1 l1 c1,.slice A2 l2 c2,.slice A3 l3 c3,.slice A4 l4 c4]:=Blk.new _ _ _
  have q:=b1.at 1 rfl
  go_wp2_with fail
  go_ret
  exact⟨congrArg (fun x=>Ending.returned (.int .i64 x)) hLb,(Upd.refl _ w).alloc _⟩
set_option maxRecDepth 100000 in
set_option maxHeartbeats 1000000 in
theorem rsize_any (h:RGrpV w v P Q G H) (hF:blen P≤1000000):Calls Tryz.prog 108 #[v] w fun e w'=>e=.returned (.int .i64 (byteSz P:Nat))∧Ext w w':=by
  obtain⟨A1,l1,c1,A2,l2,c2,A3,l3,c3,A4,l4,c4,rfl,h1,h2,h3,h4⟩:=h
  have hlen:=h1.len
  have hF':=hF
  rw[←hlen]at hF'
  have hLb:=byteSz_int P
  rw[←hlen]at hLb
  obtain⟨z,hz⟩:∃z,z=byteSz P:=⟨_,rfl⟩
  rw[←hz]at hLb ⊢
  clear hlen hz
  go_enter Tryz.func108,Tryz.ntmps108
  have b1:Blk (w.alloc (.cells #[.slice A1 l1 c1,.slice A2 l2 c2,.slice A3 l3 c3,.slice A4 l4 c4] 34)) w.heap.size 34 #[.slice A1 l1 c1,.slice A2 l2 c2,.slice A3 l3 c3,.slice A4 l4 c4]:=Blk.new _ _ _
  have q:=b1.at 0 rfl
  go_wp2_with fail
  go_ret
  exact⟨congrArg (fun x=>Ending.returned (.int .i64 x)) hLb,(Upd.refl _ w).alloc _⟩
set_option maxRecDepth 100000 in
set_option maxHeartbeats 1000000 in
theorem rgbytes_any (vx:Value) (x:Nat) (h:RGrpV w v P Q G H) (hV:RefV w vx x) (hF:blen P≤1000000) (hFx:blen x≤1000000) (hbx:bytelen x≤byteSz P):Calls Tryz.prog 90 #[v,vx] w (RetS w (byteSz P) (toB x (byteSz P))):=by
 obtain⟨A1,l1,c1,A2,l2,c2,A3,l3,c3,A4,l4,c4,rfl,h1,h2,h3,h4⟩:=h
 obtain⟨A5,l5,c5,xs,rfl, -⟩:=hV.open_
 have hG:RGrpV w (.agg #[.slice A1 l1 c1,.slice A2 l2 c2,.slice A3 l3 c3,.slice A4 l4 c4]) P Q G H:=⟨A1,l1,c1,A2,l2,c2,A3,l3,c3,A4,l4,c4,rfl,h1,h2,h3,h4⟩
 have hsz:byteSz P≤1000000:=by unfold byteSz;omega
 have HG:=hide hG
 obtain⟨z,hz⟩:∃z,z=byteSz P:=⟨_,rfl⟩
 rw[←hz]at hbx hsz ⊢
 have Hz:=hide hz
 clear hz hG h1 h2 h3 h4
 go_enter Tryz.func90,Tryz.ntmps90
 have b1:Blk (w.alloc (.cells #[.slice A1 l1 c1,.slice A2 l2 c2,.slice A3 l3 c3,.slice A4 l4 c4] 34)) w.heap.size 34 #[.slice A1 l1 c1,.slice A2 l2 c2,.slice A3 l3 c3,.slice A4 l4 c4]:=Blk.new _ _ _
 have q0:=b1.at 0 rfl
 have q1:=b1.at 1 rfl
 have q2:=b1.at 2 rfl
 have q3:=b1.at 3 rfl
 have hE:Ext w (w.alloc (.cells #[.slice A1 l1 c1,.slice A2 l2 c2,.slice A3 l3 c3,.slice A4 l4 c4] 34)):=(Upd.refl _ w).alloc _
 go_wp2_with fail
 clear q0 q1 q2 q3 b1
 refine(rsize_any _ _ P Q G H (HG.out.ext hE) hF).mono ?_
 rw[←Hz.out]
 rintro e w1 ⟨rfl,hU1⟩
 go_wp2_with fail
 refine(rbytes_any _ x 1000000 z _ (hV.ext (hE.trans hU1)) hFx (by omega) hbx (by omega)).mono ?_
 rintro e w2 ⟨A9,c9,rfl,hl9,hO9,hU9⟩
 have hEE:=(hE.trans hU1).trans hU9
 have hO:=hO9.mono (B':=w.heap.size) (hE.trans hU1).size
 clear hO9
 go_wp2_with fail
 go_ret
 exact⟨A9,c9,rfl,hO,hEE⟩
set_option maxRecDepth 100000 in
set_option maxHeartbeats 4000000 in
theorem rschal_any (va vy:Value) (a y:Nat) (A:Option Addr) (n c:Nat) (msg:List (BitVec 8)) (h:RGrpV w v P Q G H) (hVa:RefV w va a) (hVy:RefV w vy y) (hM:Pt.ok w ⟨A,n,c,msg⟩) (ha:memB P Q a=true) (hy:memB P Q y=true) (hFP:blen P≤k) (hFQ:blen Q≤k) (hk8:256≤k) (hk:k≤1000000) (hn:n≤10000000) (hQ0:0<Q):
 Calls Tryz.prog 55 #[v,va,vy,.slice A n c] w (RetR w (chalOf [sgnB,memBy P Q a,memBy P Q y,msg] Q)):=by
 have hG:=h
 obtain⟨A1,l1,c1,A2,l2,c2,A3,l3,c3,A4,l4,c4,rfl,h1,h2,h3,h4⟩:=h
 obtain⟨A5,l5,c5,xs,rfl, -⟩:=hVa.open_
 obtain⟨A6,l6,c6,ys,rfl, -⟩:=hVy.open_
 have hfa:blen a≤1000000:=Nat.le_trans (blen_mono (Nat.le_of_lt (memB_lt ha).2.1)) (by omega)
 have hfy:blen y≤1000000:=Nat.le_trans (blen_mono (Nat.le_of_lt (memB_lt hy).2.1)) (by omega)
 have hba:bytelen a≤byteSz P:=byteSz_mono (Nat.le_of_lt (memB_lt ha).2.1)
 have hby:bytelen y≤byteSz P:=byteSz_mono (Nat.le_of_lt (memB_lt hy).2.1)
 have hszP:byteSz P≤1000000:=by unfold byteSz;omega
 have ma:memBy P Q a=toB a (byteSz P):=by unfold memBy;rw[if_pos ha]
 have my:memBy P Q y=toB y (byteSz P):=by unfold memBy;rw[if_pos hy]
 rw[ma,my]
 obtain⟨z,hz⟩:∃z,z=byteSz P:=⟨_,rfl⟩
 obtain⟨ba,hbae⟩:∃b,b=toB a (byteSz P):=⟨_,rfl⟩
 obtain⟨by_,hbye⟩:∃b,b=toB y (byteSz P):=⟨_,rfl⟩
 have hal:ba.length=z:=by rw[hbae,hz,toB_length]
 have hyl:by_.length=z:=by rw[hbye,hz,toB_length]
 rw[←hbae,←hbye]
 rw[←hz]at hszP
 have Hz:=hide hz
 have HM:=hide hM
 have HG:=hide hG
 have Hal:=hide hal
 have Hyl:=hide hyl
 have Hba:=hide hbae
 have Hby:=hide hbye
 have hml:msg.length=n:=hM.2.1
 have Hml:=hide hml
 clear hz hM hG ma my hal hyl hbae hbye hml
 go_enter Tryz.func55,Tryz.ntmps55
 go_wp2_with fail
 refine name_w (fun X hX=>?_)
 have b4:Blk X w.heap.size 34 #[.slice A1 l1 c1,.slice A2 l2 c2,.slice A3 l3 c3,.slice A4 l4 c4]:=by rw[hX];exact Blk.new _ _ _
 have hEX:Ext w X:=by rw[hX];exact(Upd.refl _ _).alloc _
 clear hX
 have y0:=b4.at 0 rfl
 have y1:=b4.at 1 rfl
 have y2:=b4.at 2 rfl
 have y3:=b4.at 3 rfl
 refine wp_region_monor (RF X.heap.size) (RF.refl _) (RF.trans _) 12 (fun i=>([MR.eq _ (.agg #[.slice A1 l1 c1,.slice A2 l2 c2,.slice A3 l3 c3,.slice A4 l4 c4]),litF X.heap.size 5 4 sgnB,bytesF X.heap.size (4) (sgnB),MR.eq _ (.agg #[.slice A1 l1 c1,.slice A2 l2 c2,.slice A3 l3 c3,.slice A4 l4 c4]),MR.eq _ (.slice A5 l5 c5),bytesF X.heap.size (z) (ba),MR.eq _ (.agg #[.slice A1 l1 c1,.slice A2 l2 c2,.slice A3 l3 c3,.slice A4 l4 c4]),MR.eq _ (.slice A6 l6 c6),bytesF X.heap.size (z) (by_),MR.eq _ (.slice A n c),bssF X.heap.size 4 [sgnB,ba,by_,msg],refF X.heap.size (chalOf [sgnB,ba,by_,msg] Q)]:List (MR (RF X.heap.size))).getD i (MR.eq _ undef)) (by kernel_rfl) (by kernel_rfl) ?_ ?_
 · intro i hi
   match i,hi with
   | 0,_=>
     intro u wx o ho hE hw
     injection (ho:some _=some o)with ho
     subst ho
     have hEx:Ext X wx:=(hE.ext (Nat.le_refl _)).undrew
     simp only[fr,dstOf]
     go_simp
     have z0:=hEx.cellv y0
     have z1:=hEx.cellv y1
     have z2:=hEx.cellv y2
     have z3:=hEx.cellv y3
     go_wp2
     first | exact RF.refl _ _ | exact⟨trivial,RF.refl _ _⟩ | exact⟨_,rfl,RF.refl _ _,rfl⟩ | exact⟨RF.refl _ _,rfl⟩
   | 1,_=>
     intro u wx o ho hE hw
     injection (ho:some _=some o)with ho
     subst ho
     have hEx:Ext X wx:=(hE.ext (Nat.le_refl _)).undrew
     simp only[fr,dstOf]
     go_simp
     go_wp2
     first | exact⟨_,rfl,RF.of ((Upd.refl _ _).alloc _),litF_mk ⟨_,_,rfl,hEx.size,rfl,heap_alloc_new wx _⟩⟩ | exact⟨RF.of ((Upd.refl _ _).alloc _),litF_mk ⟨_,_,rfl,hEx.size,rfl,heap_alloc_new wx _⟩⟩
   | 2,_=>
     intro u wx o ho hE hw
     injection (ho:some _=some o)with ho
     subst ho
     have hEx:Ext X wx:=(hE.ext (Nat.le_refl _)).undrew
     obtain⟨g1,aM1,f1,hg1,aN1,hV1⟩:=litF_out (hw 1 (by omega) (by kernel_rfl))
     simp only[fr,dstOf]
     go_simp
     have hcv:=run_convert_mark (P:=Tryz.prog) (n:=4) (c:=4) hV1 Tryz.under_bs Tryz.under8
     go_wp2
     first | exact⟨_,rfl,RF.freeze hg1,bytesF_mk ⟨_,_,rfl,rfl,Nat.le_refl _,by simp[maxLen],(RF.freeze hg1).sl (lit_bytes hV1)⟩⟩ | exact⟨RF.freeze hg1,bytesF_mk ⟨_,_,rfl,rfl,Nat.le_refl _,by simp[maxLen],(RF.freeze hg1).sl (lit_bytes hV1)⟩⟩
   | 3,_=>
     intro u wx o ho hE hw
     injection (ho:some _=some o)with ho
     subst ho
     have hEx:Ext X wx:=(hE.ext (Nat.le_refl _)).undrew
     simp only[fr,dstOf]
     go_simp
     have z0:=hEx.cellv y0
     have z1:=hEx.cellv y1
     have z2:=hEx.cellv y2
     have z3:=hEx.cellv y3
     go_wp2
     first | exact RF.refl _ _ | exact⟨trivial,RF.refl _ _⟩ | exact⟨_,rfl,RF.refl _ _,rfl⟩ | exact⟨RF.refl _ _,rfl⟩
   | 4,_=>
     intro u wx o ho hE hw
     injection (ho:some _=some o)with ho
     subst ho
     have hEx:Ext X wx:=(hE.ext (Nat.le_refl _)).undrew
     simp only[fr,dstOf]
     go_simp
     go_wp2
     first | exact RF.refl _ _ | exact⟨_,rfl,RF.refl _ _,rfl⟩ | exact⟨RF.refl _ _,rfl⟩
   | 5,_=>
     intro u wx o ho hE hw
     injection (ho:some _=some o)with ho
     subst ho
     have hEx:Ext X wx:=(hE.ext (Nat.le_refl _)).undrew
     have f3:u 3=.agg #[.slice A1 l1 c1,.slice A2 l2 c2,.slice A3 l3 c3,.slice A4 l4 c4]:=hw 3 (by omega) (by kernel_rfl)
     have f4:u 4=.slice A5 l5 c5:=hw 4 (by omega) (by kernel_rfl)
     simp only[fr,dstOf]
     go_simp
     go_wp2_with fail
     refine(rgbytes_any _ _ P Q G H _ a (HG.out.ext (hEX.trans hEx)) (hVa.ext (hEX.trans hEx)) (by omega) hfa hba).mono ?_
     rintro e wn ⟨A9,c9,rfl,hO,hU⟩
     go_wp2_with fail
     first | exact⟨_,rfl,(RF.of hU),bytesF_mk ⟨_,_,by rw[Hz.out],Own.pt (by rw[Hba.out];exact hO) Hal.out⟩⟩ | exact⟨(RF.of hU),bytesF_mk ⟨_,_,by rw[Hz.out],Own.pt (by rw[Hba.out];exact hO) Hal.out⟩⟩
   | 6,_=>
     intro u wx o ho hE hw
     injection (ho:some _=some o)with ho
     subst ho
     have hEx:Ext X wx:=(hE.ext (Nat.le_refl _)).undrew
     simp only[fr,dstOf]
     go_simp
     have z0:=hEx.cellv y0
     have z1:=hEx.cellv y1
     have z2:=hEx.cellv y2
     have z3:=hEx.cellv y3
     go_wp2
     first | exact RF.refl _ _ | exact⟨trivial,RF.refl _ _⟩ | exact⟨_,rfl,RF.refl _ _,rfl⟩ | exact⟨RF.refl _ _,rfl⟩
   | 7,_=>
     intro u wx o ho hE hw
     injection (ho:some _=some o)with ho
     subst ho
     have hEx:Ext X wx:=(hE.ext (Nat.le_refl _)).undrew
     simp only[fr,dstOf]
     go_simp
     go_wp2
     first | exact RF.refl _ _ | exact⟨_,rfl,RF.refl _ _,rfl⟩ | exact⟨RF.refl _ _,rfl⟩
   | 8,_=>
     intro u wx o ho hE hw
     injection (ho:some _=some o)with ho
     subst ho
     have hEx:Ext X wx:=(hE.ext (Nat.le_refl _)).undrew
     have f6:u 6=.agg #[.slice A1 l1 c1,.slice A2 l2 c2,.slice A3 l3 c3,.slice A4 l4 c4]:=hw 6 (by omega) (by kernel_rfl)
     have f7:u 7=.slice A6 l6 c6:=hw 7 (by omega) (by kernel_rfl)
     simp only[fr,dstOf]
     go_simp
     go_wp2_with fail
     refine(rgbytes_any _ _ P Q G H _ y (HG.out.ext (hEX.trans hEx)) (hVy.ext (hEX.trans hEx)) (by omega) hfy hby).mono ?_
     rintro e wn ⟨A9,c9,rfl,hO,hU⟩
     go_wp2_with fail
     first | exact⟨_,rfl,(RF.of hU),bytesF_mk ⟨_,_,by rw[Hz.out],Own.pt (by rw[Hby.out];exact hO) Hyl.out⟩⟩ | exact⟨(RF.of hU),bytesF_mk ⟨_,_,by rw[Hz.out],Own.pt (by rw[Hby.out];exact hO) Hyl.out⟩⟩
   | 9,_=>
     intro u wx o ho hE hw
     injection (ho:some _=some o)with ho
     subst ho
     have hEx:Ext X wx:=(hE.ext (Nat.le_refl _)).undrew
     simp only[fr,dstOf]
     go_simp
     go_wp2
     first | exact RF.refl _ _ | exact⟨_,rfl,RF.refl _ _,rfl⟩ | exact⟨RF.refl _ _,rfl⟩
   | 10,_=>
     intro u wx o ho hE hw
     injection (ho:some _=some o)with ho
     subst ho
     have hEx:Ext X wx:=(hE.ext (Nat.le_refl _)).undrew
     have hQ2:=bytesF_out (hw 2 (by omega) (by kernel_rfl))
     cases hQ2;rename_i aA2 hQ2
     cases hQ2;rename_i aC2 hQ2
     have f2:=hQ2.1
     have aN2:=hQ2.2.1
     have aX2:=hQ2.2.2.1
     have aM2:=hQ2.2.2.2.1
     have hV2:=hQ2.2.2.2.2
     clear hQ2
     have hQ5:=bytesF_out (hw 5 (by omega) (by kernel_rfl))
     cases hQ5;rename_i aA5 hQ5
     cases hQ5;rename_i aC5 hQ5
     have f5:=hQ5.1
     have aN5:=hQ5.2.1
     have aX5:=hQ5.2.2.1
     have aM5:=hQ5.2.2.2.1
     have hV5:=hQ5.2.2.2.2
     clear hQ5
     have hQ8:=bytesF_out (hw 8 (by omega) (by kernel_rfl))
     cases hQ8;rename_i aA8 hQ8
     cases hQ8;rename_i aC8 hQ8
     have f8:=hQ8.1
     have aN8:=hQ8.2.1
     have aX8:=hQ8.2.2.1
     have aM8:=hQ8.2.2.2.1
     have hV8:=hQ8.2.2.2.2
     clear hQ8
     have f9:u 9=.slice A n c:=hw 9 (by omega) (by kernel_rfl)
     simp only[fr,dstOf]
     go_simp
     go_wp2
     first | exact⟨_,rfl,RF.of ((Upd.refl _ _).alloc _),bssF_mk ⟨_,_,[⟨aA2,4,aC2,sgnB⟩,⟨aA5,z,aC5,ba⟩,⟨aA8,z,aC8,by_⟩,⟨A,n,c,msg⟩],rfl,rfl,rfl,(by intro p hp;simp only[List.mem_cons,List.mem_nil_iff,or_false]at hp;rcases hp with rfl | rfl | rfl | rfl;exact rfl;exact Hal.out;exact Hyl.out;exact Hml.out),Pts.lit wx _ _ (by intro p hp;simp only[List.mem_cons,List.mem_nil_iff,or_false]at hp;rcases hp with rfl | rfl | rfl | rfl;exact⟨hV2,aN2,aX2,aM2⟩;exact⟨hV5,aN5,aX5,aM5⟩;exact⟨hV8,aN8,aX8,aM8⟩;exact HM.out.ext (hEX.trans hEx))⟩⟩ | exact⟨RF.of ((Upd.refl _ _).alloc _),bssF_mk ⟨_,_,[⟨aA2,4,aC2,sgnB⟩,⟨aA5,z,aC5,ba⟩,⟨aA8,z,aC8,by_⟩,⟨A,n,c,msg⟩],rfl,rfl,rfl,(by intro p hp;simp only[List.mem_cons,List.mem_nil_iff,or_false]at hp;rcases hp with rfl | rfl | rfl | rfl;exact rfl;exact Hal.out;exact Hyl.out;exact Hml.out),Pts.lit wx _ _ (by intro p hp;simp only[List.mem_cons,List.mem_nil_iff,or_false]at hp;rcases hp with rfl | rfl | rfl | rfl;exact⟨hV2,aN2,aX2,aM2⟩;exact⟨hV5,aN5,aX5,aM5⟩;exact⟨hV8,aN8,aX8,aM8⟩;exact HM.out.ext (hEX.trans hEx))⟩⟩
   | 11,_=>
     intro u wx o ho hE hw
     injection (ho:some _=some o)with ho
     subst ho
     have hEx:Ext X wx:=(hE.ext (Nat.le_refl _)).undrew
     have f0:u 0=.agg #[.slice A1 l1 c1,.slice A2 l2 c2,.slice A3 l3 c3,.slice A4 l4 c4]:=hw 0 (by omega) (by kernel_rfl)
     obtain⟨aA10,aC10,aP10,f10,aN10,aB10,aL10,hV10⟩:=bssF_out (hw 10 (by omega) (by kernel_rfl))
     simp only[fr,dstOf]
     go_simp
     go_wp2_with fail
     refine(rChal_any _ P Q G H k aA10 4 aC10 aP10 _ (HG.out.ext (hEX.trans hEx)) hV10 aN10 (by omega) (by rw[chalB_bs aP10 aL10,aB10];simp only[chalBs,List.flatMap_cons,List.flatMap_nil,List.length_append,leK_length,List.length_nil,sgnB,List.length_cons,Hal.out,Hyl.out,Hml.out];omega) hFQ hk8 hk hQ0).mono ?_
     rintro e wn ⟨A9,l9,c9,rfl,hVn,hU⟩
     go_wp2_with fail
     first | exact⟨_,rfl,(RF.of hU),refF_mk ⟨_,_,_,rfl,by rw[←aB10,←chalN_bs aL10];exact hVn⟩⟩ | exact⟨(RF.of hU),refF_mk ⟨_,_,_,rfl,by rw[←aB10,←chalN_bs aL10];exact hVn⟩⟩
   | k+12,h=>exact absurd h (by omega)
 · intro u wx hE hJ
   have hEx:Ext X wx:=(hE.ext (Nat.le_refl _)).undrew
   have f0:u 0=.agg #[.slice A1 l1 c1,.slice A2 l2 c2,.slice A3 l3 c3,.slice A4 l4 c4]:=hJ 0 (by omega)
   obtain⟨g1,aM1,f1,hg1,aN1,hV1⟩:=litF_out (hJ 1 (by omega))
   have hQ2:=bytesF_out (hJ 2 (by omega))
   cases hQ2;rename_i aA2 hQ2
   cases hQ2;rename_i aC2 hQ2
   have f2:=hQ2.1
   have aN2:=hQ2.2.1
   have aX2:=hQ2.2.2.1
   have aM2:=hQ2.2.2.2.1
   have hV2:=hQ2.2.2.2.2
   clear hQ2
   have f3:u 3=.agg #[.slice A1 l1 c1,.slice A2 l2 c2,.slice A3 l3 c3,.slice A4 l4 c4]:=hJ 3 (by omega)
   have f4:u 4=.slice A5 l5 c5:=hJ 4 (by omega)
   have hQ5:=bytesF_out (hJ 5 (by omega))
   cases hQ5;rename_i aA5 hQ5
   cases hQ5;rename_i aC5 hQ5
   have f5:=hQ5.1
   have aN5:=hQ5.2.1
   have aX5:=hQ5.2.2.1
   have aM5:=hQ5.2.2.2.1
   have hV5:=hQ5.2.2.2.2
   clear hQ5
   have f6:u 6=.agg #[.slice A1 l1 c1,.slice A2 l2 c2,.slice A3 l3 c3,.slice A4 l4 c4]:=hJ 6 (by omega)
   have f7:u 7=.slice A6 l6 c6:=hJ 7 (by omega)
   have hQ8:=bytesF_out (hJ 8 (by omega))
   cases hQ8;rename_i aA8 hQ8
   cases hQ8;rename_i aC8 hQ8
   have f8:=hQ8.1
   have aN8:=hQ8.2.1
   have aX8:=hQ8.2.2.1
   have aM8:=hQ8.2.2.2.1
   have hV8:=hQ8.2.2.2.2
   clear hQ8
   have f9:u 9=.slice A n c:=hJ 9 (by omega)
   obtain⟨aA10,aC10,aP10,f10,aN10,aB10,aL10,hV10⟩:=bssF_out (hJ 10 (by omega))
   have hQ11:=refF_out (hJ 11 (by omega))
   cases hQ11;rename_i aA11 hQ11
   cases hQ11;rename_i aL11 hQ11
   cases hQ11;rename_i aC11 hQ11
   have f11:=hQ11.1
   have hV11:=hQ11.2
   clear hQ11
   clear hJ
   simp only[fr,dstOf]
   go_simp
   try simp only[List.drop_succ_cons,List.drop_zero]
   go_wp2_with fail
   go_ret
   exact⟨_,_,_,rfl,hV11,hEX.trans hEx⟩
end
end Go.Proofs.YtbhhjfhepkbfgaaGreat
