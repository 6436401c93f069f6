/- LetterProofs, walked. -/
import Derived.Test.YtdohmikoafkniaaGreatLwDlqU
import Derived.Test.YtdohmikoafkniaaGreatLwSgnT
import Derived.Test.YtdohmikoafkniaaGreatLwLetG
set_option maxRecDepth 100000
set_option maxHeartbeats 8000000
namespace Go.Proofs.YtdohmikoafkniaaGreat
set_option linter.unusedSimpArgs false
set_option linter.unusedVariables false
open Go.RowKit
open Nt Sha
attribute [local go_sem] steady steadyUpon Cls same_cell anyW
attribute [local irreducible] wpHead wpTree wpHeadR Sha.sum chalOf ansN
section
variable (P Q G H : Nat) (w : World) (vg : Value)
theorem lrKey_any (vx:Value) (x:Nat) (h:RGrpV w vg P Q G H) (hVx:RefV w vx x) (hFx:blen x≤1024) (hFQ:blen Q≤1024):
 Calls Tryz.prog 47 #[vg,vx] w fun e w'=>e=.returned (.bool (decide (0<x∧x<Q)))∧Ext w w':=by
 have hG:=h
 obtain⟨A1,l1,c1,A2,l2,c2,A3,l3,c3,A4,l4,c4,rfl, -⟩:=h
 obtain⟨A5,l5,c5,xs5,rfl, -⟩:=hVx.open_
 have HG:=hide hG
 obtain⟨t,ht⟩:∃t,t=decide (0<x∧x<Q):=⟨_,rfl⟩
 rw[←ht]
 have Ht:=hide ht
 clear hG ht
 obtain⟨W,hW⟩:∃W,W=w.alloc (.cells #[.slice A1 l1 c1,.slice A2 l2 c2,.slice A3 l3 c3,.slice A4 l4 c4] 30):=⟨_,rfl⟩
 have b2:Blk W w.heap.size 30 #[.slice A1 l1 c1,.slice A2 l2 c2,.slice A3 l3 c3,.slice A4 l4 c4]:=by rw[hW];exact Blk.new _ _ _
 have hE:Ext w W:=by rw[hW];exact(Upd.refl _ w).alloc _
 have q0:=b2.at 0 rfl
 have q1:=b2.at 1 rfl
 have q2:=b2.at 2 rfl
 have q3:=b2.at 3 rfl
 rw[hW]at q0 q1 q2 q3
 go_enter Tryz.func47,Tryz.ntmps47
 go_wp2_with fail
 rw[←hW]
 clear q0 q1 q2 q3
 refine(rright_any W _ P Q G H _ x (HG.out.ext hE) (hVx.ext hE) hFx hFQ).mono ?_
 rw[←Ht.out]
 rintro e w1 ⟨rfl,hU1⟩
 have hG:=hE.trans hU1
 go_wp2_with fail
 go_ret
 exact⟨rfl,hG⟩
def RetRs (w:World) (N z:Nat) (prf:List (BitVec 8)) (e:Ending) (w':World):Prop:=
 ∃B l c A d,e=.returned (.tuple #[.slice B l c,.slice A N d])∧RefV w' (.slice B l c) z∧Pt.ok w' ⟨A,N,d,prf⟩∧Ext w w'
def CutRs (V:World) (N z:Nat) (prf:List (BitVec 8)) (s10 s11:Value) (wx:World):Prop:=
 ∃g E0 m0 d0 E1 m1 d1 E2 m2 d2 E3 m3 d3 AP cP,s10=.pointer (some ⟨g,0,none⟩)∧s11=.slice AP N cP∧Blk wx g 48 #[.slice E0 m0 d0,.slice E1 m1 d1,.slice E2 m2 d2,.slice E3 m3 d3]∧RefV wx (.slice E3 m3 d3) z∧Pt.ok wx ⟨AP,N,cP,prf⟩∧Ext V wx
theorem lrshow_any (vx vo:Value) (x o s:Nat) (h:RGrpV w vg P Q G H) (hVx:RefV w vx x) (hVo:RefV w vo o) (hP2:2≤P) (hQ64:64<Q) (hFP:blen P≤1024) (hFQ:blen Q≤1024) (hmG:memB P Q G=true) (ho:memB P Q o=true) (hxQ:x<Q) (hs:s≤1048576):
 Calls Tryz.prog 48 #[vg,vx,vo,.int .i64 (s:Int)] w (RetRs w (2*byteSz Q) (o^x % P) (pvB P Q G o x (sideB s))):=by
 have hG:=h
 obtain⟨A1,l1,c1,A2,l2,c2,A3,l3,c3,A4,l4,c4,rfl,hg1,hg2,hg3,hg4⟩:=h
 obtain⟨A5,l5,c5,xs5,rfl, -⟩:=hVx.open_
 obtain⟨A6,l6,c6,xs6,rfl, -⟩:=hVo.open_
 have HG:=hide hG
 obtain⟨N,hN⟩:∃N,N=2*byteSz Q:=⟨_,rfl⟩
 obtain⟨z,hz⟩:∃y,y=o^x % P:=⟨_,rfl⟩
 obtain⟨prf,hprf⟩:∃y,y=pvB P Q G o x (sideB s):=⟨_,rfl⟩
 rw[←hN,←hz,←hprf]
 have HN:=hide hN
 have Hz:=hide hz
 have Hprf:=hide hprf
 have Ho:=hide ho
 have HmG:=hide hmG
 clear hG hN hz hprf ho hmG
 go_enter Tryz.func48,Tryz.ntmps48
 go_wp2_with fail
 refine name_w (fun X hX=>?_)
 have b4:Blk X w.heap.size 30 #[.slice A1 l1 c1,.slice A2 l2 c2,.slice A3 l3 c3,.slice A4 l4 c4]:=by rw[hX];exact Blk.new _ _ _
 have hE:Ext w X:=by rw[hX];exact(Upd.refl _ w).alloc _
 clear hX
 go_cut [10,11] (fun s10 s11 wx=>CutRs X N z prf s10 s11 wx)
 case first=>
  have hXd:Ext X X.drew:=uR_.drew
  have hED:=hE.trans hXd
  have y0:=fun y:Wd (Ext X.drew)=>y.ok.cellv ((b4.ext hXd).at 0 rfl)
  have y1:=fun y:Wd (Ext X.drew)=>y.ok.cellv ((b4.ext hXd).at 1 rfl)
  have y2:=fun y:Wd (Ext X.drew)=>y.ok.cellv ((b4.ext hXd).at 2 rfl)
  have y3:=fun y:Wd (Ext X.drew)=>y.ok.cellv ((b4.ext hXd).at 3 rfl)
  have hRd:=HG.out.ext hED
  have hgd:=hg3.ext hED
  have hod:=hVo.ext hED
  have hxd:=hVx.ext hED
  have h0E:Ext X.drew X.drew:=uR_
  refine wp_region_tree (Ext X.drew) 13 (.q 0 (.q 1 (.q 2 (.q 3 (.q 4 (.q 5 (.two 6 11 (.two 7 11 (.q 8 (.q 9 (.q 10 (.l 11 (.l 12 .done))))) (.l 7 (.q 8 (.q 9 (.q 10 (.l 12 .done)))))) (.l 6 (.l 7 (.q 8 (.q 9 (.q 10 (.l 12 .done))))))))))))) (by kernel_rfl) (by kernel_rfl) (uR_) (fun hne=>?_)
  repeat (refine tree_q rfl (fun K hK=>?_);go_simp;refine hK _ ?_;clear hK K)
  refine tree_two rfl rfl ?_ ?_
  · skip
    go_wp2_with (go_at_call 114;go_must (refine(lrside_any _ s hs).mono ?_);rintro e u4 ⟨A7,c7,rfl,hO7,hu4⟩;have hp7:=Own.mpt hO7 (rfl:(sideB s).length=8);clear hO7;have hx6:=Upd.trans h0E hu4)
    refine⟨_,fun _ h=>h,⟨⟨_,hx6⟩,rfl⟩,?_⟩
    repeat (refine tree_q rfl (fun K hK=>?_);go_simp;refine hK _ ?_;clear hK K)
    refine tree_two rfl rfl ?_ ?_
    · skip
      go_wp2_with (go_at_call 19;go_must (refine(rprove_any _ _ P Q G H _ _ _ G o x A7 8 c7 (sideB s) (hRd.ext hu4) (hgd.ext hu4) (hod.ext hu4) (hxd.ext hu4) hp7 HmG.out Ho.out hP2 hQ64 hFP hFQ (by omega) hxQ).mono ?_);rw[←HN.out,←Hprf.out,←Hz.out];rintro e u9 ⟨vc,AR,cR,rfl,hC9,hP9,hu9⟩;obtain⟨F0,p0,s0,F1,p1,s1,F2,p2,s2,F3,p3,s3,rfl,r0,r1,r2,r3⟩:=hC9;have hx7:=Upd.trans hx6 hu9)
      refine⟨_,fun _ h=>h,⟨⟨_,hx7⟩,rfl⟩,?_⟩
      repeat (refine tree_q rfl (fun K hK=>?_);go_simp;refine hK _ ?_;clear hK K)
      refine tree_l rfl ?_
      go_wp2_with fail
      have haE:=Upd.alloc hx7 (.cells #[.slice none 0 0,.slice none 0 0,.slice none 0 0,.slice none 0 0] 48)
      have haB:Blk (World.alloc u9 (.cells #[.slice none 0 0,.slice none 0 0,.slice none 0 0,.slice none 0 0] 48)) u9.heap.size 48 #[.slice none 0 0,.slice none 0 0,.slice none 0 0,.slice none 0 0]:=Blk.new u9 48 #[.slice none 0 0,.slice none 0 0,.slice none 0 0,.slice none 0 0]
      have haG:X.drew.heap.size≤u9.heap.size:=Upd.size hx7
      have haX:Ext u9 (World.alloc u9 (.cells #[.slice none 0 0,.slice none 0 0,.slice none 0 0,.slice none 0 0] 48)):=uR_.alloc _
      refine⟨_,fun _ h=>h,⟨⟨_,haE⟩,rfl⟩,?_⟩
      repeat (refine tree_q rfl (fun K hK=>?_);go_simp;refine hK _ ?_;clear hK K)
      have hB4:=Blk.new u9 48 #[.slice F0 p0 s0,.slice F1 p1 s1,.slice F2 p2 s2,.slice F3 p3 s3]
      have hE4:=Upd.alloc hx7 (.cells #[.slice F0 p0 s0,.slice F1 p1 s1,.slice F2 p2 s2,.slice F3 p3 s3] 48)
      have hX4:Ext u9 (World.alloc u9 (.cells #[.slice F0 p0 s0,.slice F1 p1 s1,.slice F2 p2 s2,.slice F3 p3 s3] 48)):=uR_.alloc _
      refine tree_l rfl ?_
      go_wp2_with fail
      refine⟨_,fun _ h=>h,⟨⟨_,hE4⟩,rfl⟩,?_⟩
      repeat (refine tree_q rfl (fun K hK=>?_);go_simp;refine hK _ ?_;clear hK K)
      refine tree_done ?_
      try simp only[dS_,dZ_]
      go_wp2_with fail
      go_meet
      exact⟨_,F0,p0,s0,F1,p1,s1,F2,p2,s2,F3,p3,s3,AR,cR,rfl,rfl,hB4,(r3.ext hX4),⟨(hP9.1.ext hX4),hP9.2⟩,hXd.trans hE4⟩
    · skip
      go_wp2_with fail
      have haE:=Upd.alloc hx6 (.cells #[.slice none 0 0,.slice none 0 0,.slice none 0 0,.slice none 0 0] 48)
      have haB:Blk (World.alloc u4 (.cells #[.slice none 0 0,.slice none 0 0,.slice none 0 0,.slice none 0 0] 48)) u4.heap.size 48 #[.slice none 0 0,.slice none 0 0,.slice none 0 0,.slice none 0 0]:=Blk.new u4 48 #[.slice none 0 0,.slice none 0 0,.slice none 0 0,.slice none 0 0]
      have haG:X.drew.heap.size≤u4.heap.size:=Upd.size hx6
      have haX:Ext u4 (World.alloc u4 (.cells #[.slice none 0 0,.slice none 0 0,.slice none 0 0,.slice none 0 0] 48)):=uR_.alloc _
      refine⟨_,fun _ h=>h,⟨⟨_,haE⟩,rfl⟩,?_⟩
      repeat (refine tree_q rfl (fun K hK=>?_);go_simp;refine hK _ ?_;clear hK K)
      refine tree_l rfl ?_
      go_wp2_with (go_at_call 19;go_must (refine(rprove_any _ _ P Q G H _ _ _ G o x A7 8 c7 (sideB s) ((hRd.ext hu4).ext haX) ((hgd.ext hu4).ext haX) ((hod.ext hu4).ext haX) ((hxd.ext hu4).ext haX) (hp7.ext haX) HmG.out Ho.out hP2 hQ64 hFP hFQ (by omega) hxQ).mono ?_);rw[←HN.out,←Hprf.out,←Hz.out];rintro e u9 ⟨vc,AR,cR,rfl,hC9,hP9,hu9⟩;obtain⟨F0,p0,s0,F1,p1,s1,F2,p2,s2,F3,p3,s3,rfl,r0,r1,r2,r3⟩:=hC9;have hx7:=Upd.trans haE hu9)
      refine⟨_,fun _ h=>h,⟨⟨_,hx7⟩,rfl⟩,?_⟩
      repeat (refine tree_q rfl (fun K hK=>?_);go_simp;refine hK _ ?_;clear hK K)
      have y0:=(haB.ext hu9).at 0 rfl
      have x0:=(haB.ext hu9).frozen 0
      have y1:=(haB.ext hu9).at 1 rfl
      have x1:=(haB.ext hu9).frozen 1
      have y2:=(haB.ext hu9).at 2 rfl
      have x2:=(haB.ext hu9).frozen 2
      have y3:=(haB.ext hu9).at 3 rfl
      have x3:=(haB.ext hu9).frozen 3
      have hB4:=blk4 (haB.ext hu9) (.slice F0 p0 s0) (.slice F1 p1 s1) (.slice F2 p2 s2) (.slice F3 p3 s3)
      have hE4:=ext4 hx7 haG (.slice F0 p0 s0) (.slice F1 p1 s1) (.slice F2 p2 s2) (.slice F3 p3 s3)
      refine tree_l rfl ?_
      go_wp2_with fail
      refine⟨_,fun _ h=>h,⟨⟨_,hE4⟩,rfl⟩,?_⟩
      repeat (refine tree_q rfl (fun K hK=>?_);go_simp;refine hK _ ?_;clear hK K)
      refine tree_done ?_
      try simp only[dS_,dZ_]
      go_wp2_with fail
      go_meet
      exact⟨_,F0,p0,s0,F1,p1,s1,F2,p2,s2,F3,p3,s3,AR,cR,rfl,rfl,hB4,(ref4 (b0:=F0) (m0:=p0) (d0:=s0) (b1:=F1) (m1:=p1) (d1:=s1) (b2:=F2) (m2:=p2) (d2:=s2) (b3:=F3) (m3:=p3) (d3:=s3) r3 (haB.ext hu9)),⟨(sl4 (b0:=F0) (m0:=p0) (d0:=s0) (b1:=F1) (m1:=p1) (d1:=s1) (b2:=F2) (m2:=p2) (d2:=s2) (b3:=F3) (m3:=p3) (d3:=s3) hP9.1 (haB.ext hu9)),hP9.2⟩,hXd.trans hE4⟩
  · skip
    go_wp2_with fail
    have haE:=Upd.alloc h0E (.cells #[.slice none 0 0,.slice none 0 0,.slice none 0 0,.slice none 0 0] 48)
    have haB:Blk (World.alloc X.drew (.cells #[.slice none 0 0,.slice none 0 0,.slice none 0 0,.slice none 0 0] 48)) X.heap.size 48 #[.slice none 0 0,.slice none 0 0,.slice none 0 0,.slice none 0 0]:=Blk.new X.drew 48 #[.slice none 0 0,.slice none 0 0,.slice none 0 0,.slice none 0 0]
    have haG:X.drew.heap.size≤X.heap.size:=Nat.le_refl _
    have haX:Ext X.drew (World.alloc X.drew (.cells #[.slice none 0 0,.slice none 0 0,.slice none 0 0,.slice none 0 0] 48)):=uR_.alloc _
    refine⟨_,fun _ h=>h,⟨⟨_,haE⟩,rfl⟩,?_⟩
    repeat (refine tree_q rfl (fun K hK=>?_);go_simp;refine hK _ ?_;clear hK K)
    refine tree_l rfl ?_
    go_wp2_with (go_at_call 114;go_must (refine(lrside_any _ s hs).mono ?_);rintro e u4 ⟨A7,c7,rfl,hO7,hu4⟩;have hp7:=Own.mpt hO7 (rfl:(sideB s).length=8);clear hO7;have hx6:=Upd.trans haE hu4)
    refine⟨_,fun _ h=>h,⟨⟨_,hx6⟩,rfl⟩,?_⟩
    repeat (refine tree_q rfl (fun K hK=>?_);go_simp;refine hK _ ?_;clear hK K)
    refine tree_l rfl ?_
    go_wp2_with (go_at_call 19;go_must (refine(rprove_any _ _ P Q G H _ _ _ G o x A7 8 c7 (sideB s) ((hRd.ext haX).ext hu4) ((hgd.ext haX).ext hu4) ((hod.ext haX).ext hu4) ((hxd.ext haX).ext hu4) hp7 HmG.out Ho.out hP2 hQ64 hFP hFQ (by omega) hxQ).mono ?_);rw[←HN.out,←Hprf.out,←Hz.out];rintro e u9 ⟨vc,AR,cR,rfl,hC9,hP9,hu9⟩;obtain⟨F0,p0,s0,F1,p1,s1,F2,p2,s2,F3,p3,s3,rfl,r0,r1,r2,r3⟩:=hC9;have hx7:=Upd.trans hx6 hu9)
    refine⟨_,fun _ h=>h,⟨⟨_,hx7⟩,rfl⟩,?_⟩
    repeat (refine tree_q rfl (fun K hK=>?_);go_simp;refine hK _ ?_;clear hK K)
    have y0:=((haB.ext hu4).ext hu9).at 0 rfl
    have x0:=((haB.ext hu4).ext hu9).frozen 0
    have y1:=((haB.ext hu4).ext hu9).at 1 rfl
    have x1:=((haB.ext hu4).ext hu9).frozen 1
    have y2:=((haB.ext hu4).ext hu9).at 2 rfl
    have x2:=((haB.ext hu4).ext hu9).frozen 2
    have y3:=((haB.ext hu4).ext hu9).at 3 rfl
    have x3:=((haB.ext hu4).ext hu9).frozen 3
    have hB4:=blk4 ((haB.ext hu4).ext hu9) (.slice F0 p0 s0) (.slice F1 p1 s1) (.slice F2 p2 s2) (.slice F3 p3 s3)
    have hE4:=ext4 hx7 haG (.slice F0 p0 s0) (.slice F1 p1 s1) (.slice F2 p2 s2) (.slice F3 p3 s3)
    refine tree_l rfl ?_
    go_wp2_with fail
    refine⟨_,fun _ h=>h,⟨⟨_,hE4⟩,rfl⟩,?_⟩
    repeat (refine tree_q rfl (fun K hK=>?_);go_simp;refine hK _ ?_;clear hK K)
    refine tree_done ?_
    try simp only[dS_,dZ_]
    go_wp2_with fail
    go_meet
    exact⟨_,F0,p0,s0,F1,p1,s1,F2,p2,s2,F3,p3,s3,AR,cR,rfl,rfl,hB4,(ref4 (b0:=F0) (m0:=p0) (d0:=s0) (b1:=F1) (m1:=p1) (d1:=s1) (b2:=F2) (m2:=p2) (d2:=s2) (b3:=F3) (m3:=p3) (d3:=s3) r3 ((haB.ext hu4).ext hu9)),⟨(sl4 (b0:=F0) (m0:=p0) (d0:=s0) (b1:=F1) (m1:=p1) (d1:=s1) (b2:=F2) (m2:=p2) (d2:=s2) (b3:=F3) (m3:=p3) (d3:=s3) hP9.1 ((haB.ext hu4).ext hu9)),hP9.2⟩,hXd.trans hE4⟩
 case rest=>
  obtain⟨g10,F0,p0,s0,F1,p1,s1,F2,p2,s2,F3,p3,s3,AR,cR,rfl,rfl,b10,hC3,hPR,hXV⟩:=hcut
  have y3:=b10.at 3 rfl
  have hEV:=hE.trans hXV
  go_wp2_with fail
  refine bodyPost_ret (v:=.tuple #[.slice F3 p3 s3,.slice AR N cR]) (by simp[results,Tryz.results48,go_sem]) rfl ⟨_,_,_,_,_,rfl,hC3,hPR,hEV⟩
end
end Go.Proofs.YtdohmikoafkniaaGreat
namespace Go.Proofs.YtdohmikoafkniaaGreat
open Go.RowKit
open Nt Sha
attribute [local go_sem] steady steadyUpon Cls same_cell anyW
attribute [local irreducible] wpHead wpTree wpHeadR Sha.sum chalOf ansN str
theorem inB_nat {s:Int} (h:inB s=true):∃q:Nat,s=(q:Int)∧q≤1048576:=by
 unfold inB at h
 simp only[decide_eq_true_eq]at h
 exact⟨s.toNat,by omega,by omega⟩
section
variable (gr P Q G H : Nat) (w : World)
end
end Go.Proofs.YtdohmikoafkniaaGreat
