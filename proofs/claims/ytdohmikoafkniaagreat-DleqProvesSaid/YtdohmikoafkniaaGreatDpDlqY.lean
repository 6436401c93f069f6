/- DleqProves, walked. -/
import Derived.Test.YtdohmikoafkniaaGreatDpDlqU
import Derived.Test.YtdohmikoafkniaaGreatDpDlqN
import Derived.Test.YtdohmikoafkniaaGreatDpDlqL
namespace Go.Proofs.YtdohmikoafkniaaGreat
set_option linter.unusedSimpArgs false
set_option linter.unusedVariables false
open Go.RowKit
open Nt Sha
attribute [local go_sem] steady steadyUpon Cls same_cell
attribute [local irreducible] wpHead wpTree sum chalOf ansN str
theorem cmpI_self (a:Nat):cmpI a a=0:=by unfold cmpI;rw[if_neg (by omega),if_pos rfl]
def CutPv (V:World) (N p q y z:Nat) (prf:List (BitVec 8)) (s15 s16 s17:Value) (wx:World):Prop:=
 ∃g E0 m0 d0 E1 m1 d1 E2 m2 d2 E3 m3 d3 AP cP,s15=.pointer (some ⟨g,0,none⟩)∧s16=.slice AP N cP∧s17=.int .i64 0∧Blk wx g 37 #[.slice E0 m0 d0,.slice E1 m1 d1,.slice E2 m2 d2,.slice E3 m3 d3]∧NatV wx (.agg #[.slice E0 m0 d0]) p∧NatV wx (.agg #[.slice E1 m1 d1]) q∧NatV wx (.agg #[.slice E2 m2 d2]) y∧NatV wx (.agg #[.slice E3 m3 d3]) z∧Pt.ok wx ⟨AP,N,cP,prf⟩∧Ext V wx
def CutPn (V:World) (s15 s16 s17:Value) (wx:World):Prop:=
 ∃g,s15=.pointer (some ⟨g,0,none⟩)∧s16=.slice none 0 0∧s17=.int .i64 1∧Blk wx g 37 #[.slice none 0 0,.slice none 0 0,.slice none 0 0,.slice none 0 0]∧Ext V wx
def CutRp (V:World) (N p q y z:Nat) (prf:List (BitVec 8)) (s15 s16:Value) (wx:World):Prop:=
 ∃g E0 m0 d0 E1 m1 d1 E2 m2 d2 E3 m3 d3 AP cP,s15=.pointer (some ⟨g,0,none⟩)∧s16=.slice AP N cP∧Blk wx g 48 #[.slice E0 m0 d0,.slice E1 m1 d1,.slice E2 m2 d2,.slice E3 m3 d3]∧RefV wx (.slice E0 m0 d0) p∧RefV wx (.slice E1 m1 d1) q∧RefV wx (.slice E2 m2 d2) y∧RefV wx (.slice E3 m3 d3) z∧Pt.ok wx ⟨AP,N,cP,prf⟩∧Ext V wx
set_option maxRecDepth 100000 in
set_option maxHeartbeats 1000000 in
theorem dprvs_few (z a b x:Int) (raw:Bool) (A:Option Addr) (n c:Nat) (w:World) (h:300<n):
 Calls Tryz.prog 3 #[.int .i64 z,.int .u64 a,.int .u64 b,.int .u64 x,.bool raw,.slice A n c] w fun e w'=>e=.returned (.bool true)∧Ext w w':=by
 have n1I:(300:Int)<(n:Int):=by omega
 go_enter Tryz.func3,Tryz.ntmps3
 go_wp2_with fail
 refine(dlives_any w).mono ?_
 rintro e w1 ⟨rfl,hU1⟩
 go_wp2_with fail
 refine(dlives_any w1).mono ?_
 rintro e w2 ⟨rfl,hU2⟩
 have hE:=hU1.trans hU2
 go_wp2_with fail
 go_ret
 exact⟨rfl,hE⟩
set_option maxRecDepth 100000 in
set_option maxHeartbeats 8000000 in
theorem dprvs_no (z0:Int) (r:Nat) (hr:r<3) (a b x:Nat) (raw:Bool) (A:Option Addr) (n c:Nat) (side:List (BitVec 8)) (w:World) (hnum:∀w',Calls Tryz.prog 52 #[.int .i64 z0,.slice none 0 0] w' (RetNums w' r none 0 0))
 (ha64:a<18446744073709551616) (hb64:b<18446744073709551616) (hx64:x<18446744073709551616) (hM:Pt.ok w ⟨A,n,c,side⟩) (hn:n≤300) (hmp:memB (grP r) (grQ r) (if raw=true then a else grG r^a % grP r)=true→grQ r≤x):
 Calls Tryz.prog 3 #[.int .i64 z0,.int .u64 (a:Nat),.int .u64 (b:Nat),.int .u64 (x:Nat),.bool raw,.slice A n c] w fun e w'=>e=.returned (.bool true)∧Ext w w':=by
 have Hnum:=hide hnum
 have hP:Fit 32 (grP r):=(fit_grP r).mono (by omega)
 have hQ:Fit 32 (grQ r):=(fit_grQ r).mono (by omega)
 have hGf:Fit 32 (grG r):=(fit_grG r).mono (by omega)
 have hHf:Fit 32 (grH r):=(fit_grH r).mono (by omega)
 obtain⟨P,hPe⟩:∃P,P=grP r:=⟨_,rfl⟩
 obtain⟨Q,hQe⟩:∃Q,Q=grQ r:=⟨_,rfl⟩
 obtain⟨G,hGe⟩:∃G,G=grG r:=⟨_,rfl⟩
 obtain⟨H,hHe⟩:∃H,H=grH r:=⟨_,rfl⟩
 have hgok:GOk P Q G:=by rw[hPe,hQe,hGe];exact gok r hr
 have hz128:byteSz Q≤128:=by rw[hQe];exact szQ r
 rw[←hPe]at hP
 rw[←hQe]at hQ
 rw[←hGe]at hGf
 rw[←hHe]at hHf
 have HPe:=hide hPe
 have HQe:=hide hQe
 have HGe:=hide hGe
 have HHe:=hide hHe
 have hP2:=hgok.two
 have hQ64:=hgok.sml
 have hPb:blen P≤1024:=Nat.le_trans hP.blen (by omega)
 have hQb:blen Q≤1024:=Nat.le_trans hQ.blen (by omega)
 rw[←hPe,←hQe,←hGe]at hmp
 skip
 clear hnum hPe hQe hGe hHe
 have HM:=hide hM
 have n1I:¬(300:Int)<(n:Int):=by omega
 have hFx:Fit 32 x:=(fit2 hx64).mono (by omega)
 have hfx:blen x≤1024:=Nat.le_trans hFx.blen (by omega)
 have hfm:∀e,Fit 32 (G^e % P):=fun e=>hP.le (Nat.le_of_lt (Nat.mod_lt _ (by omega)))
 have hFq:=hfm b
 have hmq:memB P Q (G^b % P)=true:=hgok.mem b
 have hFp:Fit 32 (if raw=true then a else G^a % P):=by
   cases raw with
   | true=>exact(fit2 ha64).mono (by omega)
   | false=>exact hfm a
 obtain⟨pn,hpn⟩:∃x,x=(if raw=true then a else G^a % P):=⟨_,rfl⟩
 obtain⟨qn,hqn⟩:∃x,x=G^b % P:=⟨_,rfl⟩
 rw[←hpn]at hFp hmp
 rw[←hqn]at hFq hmq
 have Hpn:=hide hpn
 have Hqn:=hide hqn
 have Hmq:=hide hmq
 have hbp:blen pn≤1024:=Nat.le_trans hFp.blen (by omega)
 have hbq:blen qn≤1024:=Nat.le_trans hFq.blen (by omega)
 clear hM hfm hpn hqn hmq
 go_enter Tryz.func3,Tryz.ntmps3
 go_wp2_with fail
 refine(dlives_any w).mono ?_
 rintro e w1 ⟨rfl,hU1⟩
 go_wp2_with fail
 refine(ggroup_any z0 r hr w1 Hnum.out).mono ?_
 rintro e w2 ⟨gr,rfl,hG,hU2⟩
 rw[←HPe.out,←HQe.out,←HGe.out,←HHe.out]at hG
 have hE2:=hU1.trans hU2
 clear hU1 hU2
 go_wp2_with fail
 refine(gref_any gr P Q G H 32 _ hG hP hQ hGf hHf (by omega)).mono ?_
 rintro e w3 ⟨vg,rfl,hR,hU3⟩
 have hR0:=hR
 obtain⟨B1,m1,d1,B2,m2,d2,B3,m3,d3,B4,m4,d4,rfl, -⟩:=hR0
 go_wp2_with fail
 refine name_c (fun W hW=>?_)
 have hU3W:Ext w3 W:=by rw[hW];exact(Upd.refl _ _).alloc _
 have b14w:Blk W w3.heap.size 30 #[.slice B1 m1 d1,.slice B2 m2 d2,.slice B3 m3 d3,.slice B4 m4 d4]:=by rw[hW];exact Blk.new _ _ _
 have hGW:=hG.ext (hU3.trans hU3W)
 have hRw:=hR.ext hU3W
 have hEw:=hE2.trans (hU3.trans hU3W)
 clear hW hU3 hU3W hG hR hE2
 refine(dmem_any gr P Q G H 32 _ a raw hGW ha64 hGf hP (by omega) (by omega)).mono ?_
 rw[←Hpn.out]
 rintro e w4 ⟨A4,l4,c4,rfl,hV4,hU4⟩
 go_wp2_with fail
 refine(dmem_any gr P Q G H 32 _ b false (hGW.ext hU4) hb64 hGf hP (by omega) (by omega)).mono ?_
 rw[if_neg (by decide),←Hqn.out]
 rintro e w5 ⟨A5,l5,c5,rfl,hV5,hU5⟩
 go_wp2_with fail
 refine name_w (fun X hX=>?_)
 have hU5X:Ext w5 X:=by rw[hX];exact((Upd.refl _ _).alloc _).alloc _
 have b15:Box X w5.heap.size 34 (.slice A4 l4 c4):=by rw[hX];exact(Box.new _ _ _).alloc _
 have b16:Box X (w5.heap.size+1) 34 (.slice A5 l5 c5):=by rw[hX];exact Box.new_at (by simp)
 have hVp:=hV4.ext (hU5.trans hU5X)
 have hVq:=hV5.ext hU5X
 have hUX:=(hU4.trans hU5).trans hU5X
 have b14:=b14w.ext hUX
 have hGX:=hGW.ext hUX
 have hRX:=hRw.ext hUX
 have hEX:=hEw.trans hUX
 clear hX hU4 hU5 hU5X hV4 hV5 hUX b14w hGW hRw hEw
 have Hmp:=hide hmp
 have Hno:Hid ([pn,qn].all (memB P Q)=true→Q≤x):=hide (fun h=>by simp only[List.all_cons,Bool.and_eq_true]at h;exact Hmp.out h.1)
 clear hmp
 go_cut [17,18,19] (fun s15 s16 s17 wx=>CutPn X s15 s16 s17 wx)
 case first=>
  have hXd:Ext X X.drew:=(Upd.refl _ _).drew
  have q15:=fun y:Wd (Ext X.drew)=>y.ok.cellv (b15.ext hXd).cell
  have q16:=fun y:Wd (Ext X.drew)=>y.ok.cellv (b16.ext hXd).cell
  have hPd:=hVp.ext hXd
  have hQd:=hVq.ext hXd
  have hGd:=hGX.ext hXd
  have h0E:Ext X.drew X.drew:=Upd.refl _ _
  refine wp_region_tree (Ext X.drew) 14 (.q 0 (.q 1 (.q 2 (.q 3 (.q 5 (.two 4 11 (.two 6 11 (.q 7 (.q 8 (.q 9 (.q 10 (.l 11 (.l 12 (.q 13 .done))))))) (.l 6 (.q 7 (.q 8 (.q 9 (.q 10 (.l 12 (.q 13 .done)))))))) (.l 4 (.l 6 (.q 7 (.q 8 (.q 9 (.q 10 (.l 12 (.q 13 .done)))))))))))))) (by kernel_rfl) (by kernel_rfl) (Upd.refl _ _) (fun hne=>?_)
  repeat (refine tree_q rfl (fun K hK=>?_);go_simp;refine hK _ ?_;clear hK K)
  refine tree_two rfl rfl ?_ ?_
  · skip
    go_wp2_with (go_at_call 13;go_must (refine(new_any x _ hx64).mono ?_);rintro e u4 ⟨A4,l4,c4,rfl,hV4,hu4⟩;have hx4:=Upd.trans h0E hu4)
    refine⟨_,fun _ h=>h,⟨⟨_,hx4⟩,rfl⟩,?_⟩
    repeat (refine tree_q rfl (fun K hK=>?_);go_simp;refine hK _ ?_;clear hK K)
    refine tree_two rfl rfl ?_ ?_
    · skip
      go_wp2_with (go_at_call 12;go_must (refine(dprove_no gr P Q G H 32 _ _ _ _ A _ _ _ _ _ _ n c pn qn x (hGd.ext hu4) (hPd.ext hu4) (hQd.ext hu4) hV4 hFp hFq hFx hP hQ (by omega) (by omega) Hno.out).mono ?_);rintro e u6 ⟨rfl,hu6⟩;have hx6:=Upd.trans hx4 hu6)
      refine⟨_,fun _ h=>h,⟨⟨_,hx6⟩,rfl⟩,?_⟩
      repeat (refine tree_q rfl (fun K hK=>?_);go_simp;refine hK _ ?_;clear hK K)
      refine tree_l rfl ?_
      go_wp2_with fail
      have haE:=Upd.alloc hx6 (.cells #[.slice none 0 0,.slice none 0 0,.slice none 0 0,.slice none 0 0] 37)
      have haB:Blk (World.alloc u6 (.cells #[.slice none 0 0,.slice none 0 0,.slice none 0 0,.slice none 0 0] 37)) u6.heap.size 37 #[.slice none 0 0,.slice none 0 0,.slice none 0 0,.slice none 0 0]:=Blk.new u6 37 #[.slice none 0 0,.slice none 0 0,.slice none 0 0,.slice none 0 0]
      have haG:X.drew.heap.size≤u6.heap.size:=Upd.size hx6
      have haX:Ext u6 (World.alloc u6 (.cells #[.slice none 0 0,.slice none 0 0,.slice none 0 0,.slice none 0 0] 37)):=(Upd.refl _ _).alloc _
      refine⟨_,fun _ h=>h,⟨⟨_,haE⟩,rfl⟩,?_⟩
      repeat (refine tree_q rfl (fun K hK=>?_);go_simp;refine hK _ ?_;clear hK K)
      have hB4:=Blk.new u6 37 #[.slice none 0 0,.slice none 0 0,.slice none 0 0,.slice none 0 0]
      have hE4:=Upd.alloc hx6 (.cells #[.slice none 0 0,.slice none 0 0,.slice none 0 0,.slice none 0 0] 37)
      have hX4:Ext u6 (World.alloc u6 (.cells #[.slice none 0 0,.slice none 0 0,.slice none 0 0,.slice none 0 0] 37)):=(Upd.refl _ _).alloc _
      refine tree_l rfl ?_
      go_wp2_with fail
      refine⟨_,fun _ h=>h,⟨⟨_,hE4⟩,rfl⟩,?_⟩
      repeat (refine tree_q rfl (fun K hK=>?_);go_simp;refine hK _ ?_;clear hK K)
      refine tree_done ?_
      try simp only[List.drop_succ_cons,List.drop_zero]
      go_wp2_with fail
      go_meet
      exact⟨_,rfl,rfl,rfl,hB4,hXd.trans hE4⟩
    · skip
      go_wp2_with fail
      have haE:=Upd.alloc hx4 (.cells #[.slice none 0 0,.slice none 0 0,.slice none 0 0,.slice none 0 0] 37)
      have haB:Blk (World.alloc u4 (.cells #[.slice none 0 0,.slice none 0 0,.slice none 0 0,.slice none 0 0] 37)) u4.heap.size 37 #[.slice none 0 0,.slice none 0 0,.slice none 0 0,.slice none 0 0]:=Blk.new u4 37 #[.slice none 0 0,.slice none 0 0,.slice none 0 0,.slice none 0 0]
      have haG:X.drew.heap.size≤u4.heap.size:=Upd.size hx4
      have haX:Ext u4 (World.alloc u4 (.cells #[.slice none 0 0,.slice none 0 0,.slice none 0 0,.slice none 0 0] 37)):=(Upd.refl _ _).alloc _
      refine⟨_,fun _ h=>h,⟨⟨_,haE⟩,rfl⟩,?_⟩
      repeat (refine tree_q rfl (fun K hK=>?_);go_simp;refine hK _ ?_;clear hK K)
      refine tree_l rfl ?_
      go_wp2_with (go_at_call 12;go_must (refine(dprove_no gr P Q G H 32 _ _ _ _ A _ _ _ _ _ _ n c pn qn x ((hGd.ext hu4).ext haX) ((hPd.ext hu4).ext haX) ((hQd.ext hu4).ext haX) (hV4.ext haX) hFp hFq hFx hP hQ (by omega) (by omega) Hno.out).mono ?_);rintro e u6 ⟨rfl,hu6⟩;have hx6:=Upd.trans haE hu6)
      refine⟨_,fun _ h=>h,⟨⟨_,hx6⟩,rfl⟩,?_⟩
      repeat (refine tree_q rfl (fun K hK=>?_);go_simp;refine hK _ ?_;clear hK K)
      have y0:=(haB.ext hu6).at 0 rfl
      have x0:=(haB.ext hu6).frozen 0
      have y1:=(haB.ext hu6).at 1 rfl
      have x1:=(haB.ext hu6).frozen 1
      have y2:=(haB.ext hu6).at 2 rfl
      have x2:=(haB.ext hu6).frozen 2
      have y3:=(haB.ext hu6).at 3 rfl
      have x3:=(haB.ext hu6).frozen 3
      have hB4:=blk4 (haB.ext hu6) (.slice none 0 0) (.slice none 0 0) (.slice none 0 0) (.slice none 0 0)
      have hE4:=ext4 hx6 haG (.slice none 0 0) (.slice none 0 0) (.slice none 0 0) (.slice none 0 0)
      refine tree_l rfl ?_
      go_wp2_with fail
      refine⟨_,fun _ h=>h,⟨⟨_,hE4⟩,rfl⟩,?_⟩
      repeat (refine tree_q rfl (fun K hK=>?_);go_simp;refine hK _ ?_;clear hK K)
      refine tree_done ?_
      try simp only[List.drop_succ_cons,List.drop_zero]
      go_wp2_with fail
      go_meet
      exact⟨_,rfl,rfl,rfl,hB4,hXd.trans hE4⟩
  · skip
    go_wp2_with fail
    have haE:=Upd.alloc h0E (.cells #[.slice none 0 0,.slice none 0 0,.slice none 0 0,.slice none 0 0] 37)
    have haB:Blk (World.alloc X.drew (.cells #[.slice none 0 0,.slice none 0 0,.slice none 0 0,.slice none 0 0] 37)) X.heap.size 37 #[.slice none 0 0,.slice none 0 0,.slice none 0 0,.slice none 0 0]:=Blk.new X.drew 37 #[.slice none 0 0,.slice none 0 0,.slice none 0 0,.slice none 0 0]
    have haG:X.drew.heap.size≤X.heap.size:=Nat.le_refl _
    have haX:Ext X.drew (World.alloc X.drew (.cells #[.slice none 0 0,.slice none 0 0,.slice none 0 0,.slice none 0 0] 37)):=(Upd.refl _ _).alloc _
    refine⟨_,fun _ h=>h,⟨⟨_,haE⟩,rfl⟩,?_⟩
    repeat (refine tree_q rfl (fun K hK=>?_);go_simp;refine hK _ ?_;clear hK K)
    refine tree_l rfl ?_
    go_wp2_with (go_at_call 13;go_must (refine(new_any x _ hx64).mono ?_);rintro e u4 ⟨A4,l4,c4,rfl,hV4,hu4⟩;have hx4:=Upd.trans haE hu4)
    refine⟨_,fun _ h=>h,⟨⟨_,hx4⟩,rfl⟩,?_⟩
    repeat (refine tree_q rfl (fun K hK=>?_);go_simp;refine hK _ ?_;clear hK K)
    refine tree_l rfl ?_
    go_wp2_with (go_at_call 12;go_must (refine(dprove_no gr P Q G H 32 _ _ _ _ A _ _ _ _ _ _ n c pn qn x ((hGd.ext haX).ext hu4) ((hPd.ext haX).ext hu4) ((hQd.ext haX).ext hu4) hV4 hFp hFq hFx hP hQ (by omega) (by omega) Hno.out).mono ?_);rintro e u6 ⟨rfl,hu6⟩;have hx6:=Upd.trans hx4 hu6)
    refine⟨_,fun _ h=>h,⟨⟨_,hx6⟩,rfl⟩,?_⟩
    repeat (refine tree_q rfl (fun K hK=>?_);go_simp;refine hK _ ?_;clear hK K)
    have y0:=((haB.ext hu4).ext hu6).at 0 rfl
    have x0:=((haB.ext hu4).ext hu6).frozen 0
    have y1:=((haB.ext hu4).ext hu6).at 1 rfl
    have x1:=((haB.ext hu4).ext hu6).frozen 1
    have y2:=((haB.ext hu4).ext hu6).at 2 rfl
    have x2:=((haB.ext hu4).ext hu6).frozen 2
    have y3:=((haB.ext hu4).ext hu6).at 3 rfl
    have x3:=((haB.ext hu4).ext hu6).frozen 3
    have hB4:=blk4 ((haB.ext hu4).ext hu6) (.slice none 0 0) (.slice none 0 0) (.slice none 0 0) (.slice none 0 0)
    have hE4:=ext4 hx6 haG (.slice none 0 0) (.slice none 0 0) (.slice none 0 0) (.slice none 0 0)
    refine tree_l rfl ?_
    go_wp2_with fail
    refine⟨_,fun _ h=>h,⟨⟨_,hE4⟩,rfl⟩,?_⟩
    repeat (refine tree_q rfl (fun K hK=>?_);go_simp;refine hK _ ?_;clear hK K)
    refine tree_done ?_
    try simp only[List.drop_succ_cons,List.drop_zero]
    go_wp2_with fail
    go_meet
    exact⟨_,rfl,rfl,rfl,hB4,hXd.trans hE4⟩
 case rest=>
  obtain⟨g17,rfl,rfl,rfl,b17,hXY⟩:=hcut
  have b14y:=b14.ext hXY
  have b15y:=b15.ext hXY
  have b16y:=b16.ext hXY
  have hPy:=hVp.ext hXY
  have hQy:=hVq.ext hXY
  have hGY:=hGX.ext hXY
  have hRY:=hRX.ext hXY
  have hEY:=hEX.trans hXY
  go_wp2_with fail
  refine name_w (fun Y hY=>?_)
  subst hY
  go_cut [20,21,22] (fun s15 s16 s17 wx=>CutPn Y s15 s16 s17 wx)
  case first=>
   have hYd:Ext Y Y.drew:=(Upd.refl _ _).drew
   have q15:=fun y:Wd (Ext Y.drew)=>y.ok.cellv (b15y.ext hYd).cell
   have q16:=fun y:Wd (Ext Y.drew)=>y.ok.cellv (b16y.ext hYd).cell
   have hPd:=hPy.ext hYd
   have hQd:=hQy.ext hYd
   have h0E:Ext Y.drew Y.drew:=Upd.refl _ _
   refine wp_region_tree (Ext Y.drew) 13 (.q 0 (.q 1 (.q 2 (.q 4 (.two 3 10 (.two 5 10 (.q 6 (.q 7 (.q 8 (.q 9 (.l 10 (.l 11 (.q 12 .done))))))) (.l 5 (.q 6 (.q 7 (.q 8 (.q 9 (.l 11 (.q 12 .done)))))))) (.l 3 (.l 5 (.q 6 (.q 7 (.q 8 (.q 9 (.l 11 (.q 12 .done))))))))))))) (by kernel_rfl) (by kernel_rfl) (Upd.refl _ _) (fun hne=>?_)
   repeat (refine tree_q rfl (fun K hK=>?_);go_simp;refine hK _ ?_;clear hK K)
   refine tree_two rfl rfl ?_ ?_
   · skip
     go_wp2_with (go_at_call 13;go_must (refine(new_any x _ hx64).mono ?_);rintro e u4 ⟨A4,l4,c4,rfl,hV4,hu4⟩;have hx3:=Upd.trans h0E hu4)
     refine⟨_,fun _ h=>h,⟨⟨_,hx3⟩,rfl⟩,?_⟩
     repeat (refine tree_q rfl (fun K hK=>?_);go_simp;refine hK _ ?_;clear hK K)
     refine tree_two rfl rfl ?_ ?_
     · skip
       go_wp2_with (go_at_call 12;go_must (refine(dprove_nil _ _ _ _ A _ _ _ _ _ _ n c pn qn (hPd.ext hu4) (hQd.ext hu4)).mono ?_);rintro e u6 ⟨rfl,hu6⟩;have hx5:=Upd.trans hx3 hu6)
       refine⟨_,fun _ h=>h,⟨⟨_,hx5⟩,rfl⟩,?_⟩
       repeat (refine tree_q rfl (fun K hK=>?_);go_simp;refine hK _ ?_;clear hK K)
       refine tree_l rfl ?_
       go_wp2_with fail
       have haE:=Upd.alloc hx5 (.cells #[.slice none 0 0,.slice none 0 0,.slice none 0 0,.slice none 0 0] 37)
       have haB:Blk (World.alloc u6 (.cells #[.slice none 0 0,.slice none 0 0,.slice none 0 0,.slice none 0 0] 37)) u6.heap.size 37 #[.slice none 0 0,.slice none 0 0,.slice none 0 0,.slice none 0 0]:=Blk.new u6 37 #[.slice none 0 0,.slice none 0 0,.slice none 0 0,.slice none 0 0]
       have haG:Y.drew.heap.size≤u6.heap.size:=Upd.size hx5
       have haX:Ext u6 (World.alloc u6 (.cells #[.slice none 0 0,.slice none 0 0,.slice none 0 0,.slice none 0 0] 37)):=(Upd.refl _ _).alloc _
       refine⟨_,fun _ h=>h,⟨⟨_,haE⟩,rfl⟩,?_⟩
       repeat (refine tree_q rfl (fun K hK=>?_);go_simp;refine hK _ ?_;clear hK K)
       have hB4:=Blk.new u6 37 #[.slice none 0 0,.slice none 0 0,.slice none 0 0,.slice none 0 0]
       have hE4:=Upd.alloc hx5 (.cells #[.slice none 0 0,.slice none 0 0,.slice none 0 0,.slice none 0 0] 37)
       have hX4:Ext u6 (World.alloc u6 (.cells #[.slice none 0 0,.slice none 0 0,.slice none 0 0,.slice none 0 0] 37)):=(Upd.refl _ _).alloc _
       refine tree_l rfl ?_
       go_wp2_with fail
       refine⟨_,fun _ h=>h,⟨⟨_,hE4⟩,rfl⟩,?_⟩
       repeat (refine tree_q rfl (fun K hK=>?_);go_simp;refine hK _ ?_;clear hK K)
       refine tree_done ?_
       try simp only[List.drop_succ_cons,List.drop_zero]
       go_wp2_with fail
       go_meet
       exact⟨_,rfl,rfl,rfl,hB4,hYd.trans hE4⟩
     · skip
       go_wp2_with fail
       have haE:=Upd.alloc hx3 (.cells #[.slice none 0 0,.slice none 0 0,.slice none 0 0,.slice none 0 0] 37)
       have haB:Blk (World.alloc u4 (.cells #[.slice none 0 0,.slice none 0 0,.slice none 0 0,.slice none 0 0] 37)) u4.heap.size 37 #[.slice none 0 0,.slice none 0 0,.slice none 0 0,.slice none 0 0]:=Blk.new u4 37 #[.slice none 0 0,.slice none 0 0,.slice none 0 0,.slice none 0 0]
       have haG:Y.drew.heap.size≤u4.heap.size:=Upd.size hx3
       have haX:Ext u4 (World.alloc u4 (.cells #[.slice none 0 0,.slice none 0 0,.slice none 0 0,.slice none 0 0] 37)):=(Upd.refl _ _).alloc _
       refine⟨_,fun _ h=>h,⟨⟨_,haE⟩,rfl⟩,?_⟩
       repeat (refine tree_q rfl (fun K hK=>?_);go_simp;refine hK _ ?_;clear hK K)
       refine tree_l rfl ?_
       go_wp2_with (go_at_call 12;go_must (refine(dprove_nil _ _ _ _ A _ _ _ _ _ _ n c pn qn ((hPd.ext hu4).ext haX) ((hQd.ext hu4).ext haX)).mono ?_);rintro e u6 ⟨rfl,hu6⟩;have hx5:=Upd.trans haE hu6)
       refine⟨_,fun _ h=>h,⟨⟨_,hx5⟩,rfl⟩,?_⟩
       repeat (refine tree_q rfl (fun K hK=>?_);go_simp;refine hK _ ?_;clear hK K)
       have y0:=(haB.ext hu6).at 0 rfl
       have x0:=(haB.ext hu6).frozen 0
       have y1:=(haB.ext hu6).at 1 rfl
       have x1:=(haB.ext hu6).frozen 1
       have y2:=(haB.ext hu6).at 2 rfl
       have x2:=(haB.ext hu6).frozen 2
       have y3:=(haB.ext hu6).at 3 rfl
       have x3:=(haB.ext hu6).frozen 3
       have hB4:=blk4 (haB.ext hu6) (.slice none 0 0) (.slice none 0 0) (.slice none 0 0) (.slice none 0 0)
       have hE4:=ext4 hx5 haG (.slice none 0 0) (.slice none 0 0) (.slice none 0 0) (.slice none 0 0)
       refine tree_l rfl ?_
       go_wp2_with fail
       refine⟨_,fun _ h=>h,⟨⟨_,hE4⟩,rfl⟩,?_⟩
       repeat (refine tree_q rfl (fun K hK=>?_);go_simp;refine hK _ ?_;clear hK K)
       refine tree_done ?_
       try simp only[List.drop_succ_cons,List.drop_zero]
       go_wp2_with fail
       go_meet
       exact⟨_,rfl,rfl,rfl,hB4,hYd.trans hE4⟩
   · skip
     go_wp2_with fail
     have haE:=Upd.alloc h0E (.cells #[.slice none 0 0,.slice none 0 0,.slice none 0 0,.slice none 0 0] 37)
     have haB:Blk (World.alloc Y.drew (.cells #[.slice none 0 0,.slice none 0 0,.slice none 0 0,.slice none 0 0] 37)) Y.heap.size 37 #[.slice none 0 0,.slice none 0 0,.slice none 0 0,.slice none 0 0]:=Blk.new Y.drew 37 #[.slice none 0 0,.slice none 0 0,.slice none 0 0,.slice none 0 0]
     have haG:Y.drew.heap.size≤Y.heap.size:=Nat.le_refl _
     have haX:Ext Y.drew (World.alloc Y.drew (.cells #[.slice none 0 0,.slice none 0 0,.slice none 0 0,.slice none 0 0] 37)):=(Upd.refl _ _).alloc _
     refine⟨_,fun _ h=>h,⟨⟨_,haE⟩,rfl⟩,?_⟩
     repeat (refine tree_q rfl (fun K hK=>?_);go_simp;refine hK _ ?_;clear hK K)
     refine tree_l rfl ?_
     go_wp2_with (go_at_call 13;go_must (refine(new_any x _ hx64).mono ?_);rintro e u4 ⟨A4,l4,c4,rfl,hV4,hu4⟩;have hx3:=Upd.trans haE hu4)
     refine⟨_,fun _ h=>h,⟨⟨_,hx3⟩,rfl⟩,?_⟩
     repeat (refine tree_q rfl (fun K hK=>?_);go_simp;refine hK _ ?_;clear hK K)
     refine tree_l rfl ?_
     go_wp2_with (go_at_call 12;go_must (refine(dprove_nil _ _ _ _ A _ _ _ _ _ _ n c pn qn ((hPd.ext haX).ext hu4) ((hQd.ext haX).ext hu4)).mono ?_);rintro e u6 ⟨rfl,hu6⟩;have hx5:=Upd.trans hx3 hu6)
     refine⟨_,fun _ h=>h,⟨⟨_,hx5⟩,rfl⟩,?_⟩
     repeat (refine tree_q rfl (fun K hK=>?_);go_simp;refine hK _ ?_;clear hK K)
     have y0:=((haB.ext hu4).ext hu6).at 0 rfl
     have x0:=((haB.ext hu4).ext hu6).frozen 0
     have y1:=((haB.ext hu4).ext hu6).at 1 rfl
     have x1:=((haB.ext hu4).ext hu6).frozen 1
     have y2:=((haB.ext hu4).ext hu6).at 2 rfl
     have x2:=((haB.ext hu4).ext hu6).frozen 2
     have y3:=((haB.ext hu4).ext hu6).at 3 rfl
     have x3:=((haB.ext hu4).ext hu6).frozen 3
     have hB4:=blk4 ((haB.ext hu4).ext hu6) (.slice none 0 0) (.slice none 0 0) (.slice none 0 0) (.slice none 0 0)
     have hE4:=ext4 hx5 haG (.slice none 0 0) (.slice none 0 0) (.slice none 0 0) (.slice none 0 0)
     refine tree_l rfl ?_
     go_wp2_with fail
     refine⟨_,fun _ h=>h,⟨⟨_,hE4⟩,rfl⟩,?_⟩
     repeat (refine tree_q rfl (fun K hK=>?_);go_simp;refine hK _ ?_;clear hK K)
     refine tree_done ?_
     try simp only[List.drop_succ_cons,List.drop_zero]
     go_wp2_with fail
     go_meet
     exact⟨_,rfl,rfl,rfl,hB4,hYd.trans hE4⟩
  case rest=>
   obtain⟨g20,rfl,rfl,rfl, -,hYW⟩:=hcut
   have b14w:=b14y.ext hYW
   have b15w:=b15y.ext hYW
   have b16w:=b16y.ext hYW
   have hPw:=hPy.ext hYW
   have hQw:=hQy.ext hYW
   have hGW:=hGY.ext hYW
   have hRW:=hRY.ext hYW
   have hEW:=hEY.trans hYW
   have q15:=b15w.cell
   go_wp2_with fail
   clear q15
   refine(gMember_any gr P Q G H 32 wc _ pn hGW hPw hFp hP hQ (by omega) (by omega)).mono ?_
   cases hme:memB P Q pn with
   | false=>
     rintro e x1 ⟨rfl,hz⟩
     have b17w:=b17.ext (hYW.trans hz)
     have y0:=b17w.at 0 rfl
     go_wp2_with fail
     refine(zero_any _ 0 _ (NatV.nil _)).mono ?_
     rw[decide_eq_true (rfl:0=0)]
     rintro e x9 ⟨rfl,hx9⟩
     have hG9:=(hEW.trans hz).trans hx9
     go_wp2_with fail
     go_ret
     exact⟨rfl,hG9⟩
   | true=>
     have hxQ:¬x<Q:=by have:=Hmp.out hme;omega
     rintro e x1 ⟨rfl,hx1⟩
     clear hme
     go_wp2_with fail
     refine(new_any x _ hx64).mono ?_
     rintro e x2 ⟨A20,l20,c20,rfl,hVx,hx2⟩
     go_wp2_with fail
     refine(gField_any gr P Q G H _ (hGW.ext (hx1.trans hx2))).mono ?_
     rintro e x3 ⟨gq,rfl,hRq,rfl⟩
     go_wp2_with fail
     refine(mmod_any gq Q _ hRq).mono ?_
     rintro e x4 ⟨A21,l21,c21,rfl,hVQ,hx4⟩
     go_wp2_with fail
     refine(cmp_any _ _ x Q 32 _ (hVx.ext hx4) hVQ hFx hQ (by omega)).mono ?_
     obtain⟨zc,hzc,hzc0⟩:∃z,cmpI x Q=z∧(0:Int)≤z:=⟨_,rfl,by unfold cmpI;rw[if_neg hxQ];split<;>omega⟩
     rw[hzc]
     rintro e x5 ⟨rfl,hx5⟩
     have hz:=((hx1.trans hx2).trans hx4).trans hx5
     have b17w:=b17.ext (hYW.trans hz)
     have y0:=b17w.at 0 rfl
     go_wp2_with fail
     refine(zero_any _ 0 _ (NatV.nil _)).mono ?_
     rw[decide_eq_true (rfl:0=0)]
     rintro e x9 ⟨rfl,hx9⟩
     have hG9:=(hEW.trans hz).trans hx9
     go_wp2_with fail
     go_ret
     exact⟨rfl,hG9⟩
set_option maxRecDepth 100000 in
set_option maxHeartbeats 8000000 in
theorem dprvs_yes (z0:Int) (r:Nat) (hr:r<3) (a b x:Nat) (raw:Bool) (A:Option Addr) (n c:Nat) (side:List (BitVec 8)) (w:World) (hnum:∀w',Calls Tryz.prog 52 #[.int .i64 z0,.slice none 0 0] w' (RetNums w' r none 0 0))
 (ha64:a<18446744073709551616) (hb64:b<18446744073709551616) (hx64:x<18446744073709551616) (hM:Pt.ok w ⟨A,n,c,side⟩) (hn:n≤300) (hmp:memB (grP r) (grQ r) (if raw=true then a else grG r^a % grP r)=true) (hxQ:x<grQ r):
 Calls Tryz.prog 3 #[.int .i64 z0,.int .u64 (a:Nat),.int .u64 (b:Nat),.int .u64 (x:Nat),.bool raw,.slice A n c] w fun e w'=>e=.returned (.bool true)∧Ext w w':=by
 have Hnum:=hide hnum
 have hP:Fit 32 (grP r):=(fit_grP r).mono (by omega)
 have hQ:Fit 32 (grQ r):=(fit_grQ r).mono (by omega)
 have hGf:Fit 32 (grG r):=(fit_grG r).mono (by omega)
 have hHf:Fit 32 (grH r):=(fit_grH r).mono (by omega)
 obtain⟨P,hPe⟩:∃P,P=grP r:=⟨_,rfl⟩
 obtain⟨Q,hQe⟩:∃Q,Q=grQ r:=⟨_,rfl⟩
 obtain⟨G,hGe⟩:∃G,G=grG r:=⟨_,rfl⟩
 obtain⟨H,hHe⟩:∃H,H=grH r:=⟨_,rfl⟩
 have hgok:GOk P Q G:=by rw[hPe,hQe,hGe];exact gok r hr
 have hz128:byteSz Q≤128:=by rw[hQe];exact szQ r
 rw[←hPe]at hP
 rw[←hQe]at hQ
 rw[←hGe]at hGf
 rw[←hHe]at hHf
 have HPe:=hide hPe
 have HQe:=hide hQe
 have HGe:=hide hGe
 have HHe:=hide hHe
 have hP2:=hgok.two
 have hQ64:=hgok.sml
 have hPb:blen P≤1024:=Nat.le_trans hP.blen (by omega)
 have hQb:blen Q≤1024:=Nat.le_trans hQ.blen (by omega)
 rw[←hPe,←hQe,←hGe]at hmp
 rw[←hQe]at hxQ
 clear hnum hPe hQe hGe hHe
 have HM:=hide hM
 have n1I:¬(300:Int)<(n:Int):=by omega
 have hFx:Fit 32 x:=(fit2 hx64).mono (by omega)
 have hfx:blen x≤1024:=Nat.le_trans hFx.blen (by omega)
 have hfm:∀e,Fit 32 (G^e % P):=fun e=>hP.le (Nat.le_of_lt (Nat.mod_lt _ (by omega)))
 have hFq:=hfm b
 have hmq:memB P Q (G^b % P)=true:=hgok.mem b
 have hFp:Fit 32 (if raw=true then a else G^a % P):=by
   cases raw with
   | true=>exact(fit2 ha64).mono (by omega)
   | false=>exact hfm a
 obtain⟨pn,hpn⟩:∃x,x=(if raw=true then a else G^a % P):=⟨_,rfl⟩
 obtain⟨qn,hqn⟩:∃x,x=G^b % P:=⟨_,rfl⟩
 rw[←hpn]at hFp hmp
 rw[←hqn]at hFq hmq
 have Hpn:=hide hpn
 have Hqn:=hide hqn
 have Hmq:=hide hmq
 have hbp:blen pn≤1024:=Nat.le_trans hFp.blen (by omega)
 have hbq:blen qn≤1024:=Nat.le_trans hFq.blen (by omega)
 clear hM hfm hpn hqn hmq
 go_enter Tryz.func3,Tryz.ntmps3
 go_wp2_with fail
 refine(dlives_any w).mono ?_
 rintro e w1 ⟨rfl,hU1⟩
 go_wp2_with fail
 refine(ggroup_any z0 r hr w1 Hnum.out).mono ?_
 rintro e w2 ⟨gr,rfl,hG,hU2⟩
 rw[←HPe.out,←HQe.out,←HGe.out,←HHe.out]at hG
 have hE2:=hU1.trans hU2
 clear hU1 hU2
 go_wp2_with fail
 refine(gref_any gr P Q G H 32 _ hG hP hQ hGf hHf (by omega)).mono ?_
 rintro e w3 ⟨vg,rfl,hR,hU3⟩
 have hR0:=hR
 obtain⟨B1,m1,d1,B2,m2,d2,B3,m3,d3,B4,m4,d4,rfl, -⟩:=hR0
 go_wp2_with fail
 refine name_c (fun W hW=>?_)
 have hU3W:Ext w3 W:=by rw[hW];exact(Upd.refl _ _).alloc _
 have b14w:Blk W w3.heap.size 30 #[.slice B1 m1 d1,.slice B2 m2 d2,.slice B3 m3 d3,.slice B4 m4 d4]:=by rw[hW];exact Blk.new _ _ _
 have hGW:=hG.ext (hU3.trans hU3W)
 have hRw:=hR.ext hU3W
 have hEw:=hE2.trans (hU3.trans hU3W)
 clear hW hU3 hU3W hG hR hE2
 refine(dmem_any gr P Q G H 32 _ a raw hGW ha64 hGf hP (by omega) (by omega)).mono ?_
 rw[←Hpn.out]
 rintro e w4 ⟨A4,l4,c4,rfl,hV4,hU4⟩
 go_wp2_with fail
 refine(dmem_any gr P Q G H 32 _ b false (hGW.ext hU4) hb64 hGf hP (by omega) (by omega)).mono ?_
 rw[if_neg (by decide),←Hqn.out]
 rintro e w5 ⟨A5,l5,c5,rfl,hV5,hU5⟩
 go_wp2_with fail
 refine name_w (fun X hX=>?_)
 have hU5X:Ext w5 X:=by rw[hX];exact((Upd.refl _ _).alloc _).alloc _
 have b15:Box X w5.heap.size 34 (.slice A4 l4 c4):=by rw[hX];exact(Box.new _ _ _).alloc _
 have b16:Box X (w5.heap.size+1) 34 (.slice A5 l5 c5):=by rw[hX];exact Box.new_at (by simp)
 have hVp:=hV4.ext (hU5.trans hU5X)
 have hVq:=hV5.ext hU5X
 have hUX:=(hU4.trans hU5).trans hU5X
 have b14:=b14w.ext hUX
 have hGX:=hGW.ext hUX
 have hRX:=hRw.ext hUX
 have hEX:=hEw.trans hUX
 clear hX hU4 hU5 hU5X hV4 hV5 hUX b14w hGW hRw hEw
 have Hmp:=hide hmp
 clear hmp
 obtain⟨N,hN⟩:∃N,N=2*byteSz Q:=⟨_,rfl⟩
 obtain⟨y,hy⟩:∃y,y=pn^x % P:=⟨_,rfl⟩
 obtain⟨z,hz⟩:∃y,y=qn^x % P:=⟨_,rfl⟩
 obtain⟨prf,hprf⟩:∃y,y=pvB P Q pn qn x side:=⟨_,rfl⟩
 have hFy:Fit 32 y:=by rw[hy];exact hP.le (Nat.le_of_lt (Nat.mod_lt _ (by omega)))
 have hFz:Fit 32 z:=by rw[hz];exact hP.le (Nat.le_of_lt (Nat.mod_lt _ (by omega)))
 have HN:=hide hN
 have Hy:=hide hy
 have Hz:=hide hz
 have Hprf:=hide hprf
 clear hN hy hz hprf
 go_cut [17,18,19] (fun s15 s16 s17 wx=>CutPv X N pn qn y z prf s15 s16 s17 wx)
 case first=>
  have hXd:Ext X X.drew:=(Upd.refl _ _).drew
  have q15:=fun y:Wd (Ext X.drew)=>y.ok.cellv (b15.ext hXd).cell
  have q16:=fun y:Wd (Ext X.drew)=>y.ok.cellv (b16.ext hXd).cell
  have hPd:=hVp.ext hXd
  have hQd:=hVq.ext hXd
  have hGd:=hGX.ext hXd
  have hMd:=HM.out.ext (hEX.trans hXd)
  have h0E:Ext X.drew X.drew:=Upd.refl _ _
  refine wp_region_tree (Ext X.drew) 14 (.q 0 (.q 1 (.q 2 (.q 3 (.q 5 (.two 4 11 (.two 6 11 (.q 7 (.q 8 (.q 9 (.q 10 (.l 11 (.l 12 (.q 13 .done))))))) (.l 6 (.q 7 (.q 8 (.q 9 (.q 10 (.l 12 (.q 13 .done)))))))) (.l 4 (.l 6 (.q 7 (.q 8 (.q 9 (.q 10 (.l 12 (.q 13 .done)))))))))))))) (by kernel_rfl) (by kernel_rfl) (Upd.refl _ _) (fun hne=>?_)
  repeat (refine tree_q rfl (fun K hK=>?_);go_simp;refine hK _ ?_;clear hK K)
  refine tree_two rfl rfl ?_ ?_
  · skip
    go_wp2_with (go_at_call 13;go_must (refine(new_any x _ hx64).mono ?_);rintro e u4 ⟨A4,l4,c4,rfl,hV4,hu4⟩;have hx4:=Upd.trans h0E hu4)
    refine⟨_,fun _ h=>h,⟨⟨_,hx4⟩,rfl⟩,?_⟩
    repeat (refine tree_q rfl (fun K hK=>?_);go_simp;refine hK _ ?_;clear hK K)
    refine tree_two rfl rfl ?_ ?_
    · skip
      go_wp2_with (go_at_call 12;go_must (refine(dprove_any gr P Q G H 32 _ _ _ _ A _ _ _ _ _ _ n c pn qn x side (hGd.ext hu4) (hPd.ext hu4) (hQd.ext hu4) hV4 (hMd.ext hu4) hFp hFq hFx hP hQ hP2 hQ64 (by omega) (by omega) (by omega) Hmp.out Hmq.out hxQ).mono ?_);rw[←HN.out,←Hprf.out,←Hy.out,←Hz.out];rintro e u6 ⟨E0,i0,j0,E1,i1,j1,E2,i2,j2,E3,i3,j3,AP,cP,rfl,k0,k1,k2,k3,hlp,hOp,hu6⟩;have hpt:=Own.pt hOp hlp;have hpP:Pt.ok u6 ⟨AP,N,cP,prf⟩:=⟨hpt.2.2.2,hpt.1,hpt.2.1,hpt.2.2.1⟩;clear hOp hpt;have hx6:=Upd.trans hx4 hu6)
      refine⟨_,fun _ h=>h,⟨⟨_,hx6⟩,rfl⟩,?_⟩
      repeat (refine tree_q rfl (fun K hK=>?_);go_simp;refine hK _ ?_;clear hK K)
      refine tree_l rfl ?_
      go_wp2_with fail
      have haE:=Upd.alloc hx6 (.cells #[.slice none 0 0,.slice none 0 0,.slice none 0 0,.slice none 0 0] 37)
      have haB:Blk (World.alloc u6 (.cells #[.slice none 0 0,.slice none 0 0,.slice none 0 0,.slice none 0 0] 37)) u6.heap.size 37 #[.slice none 0 0,.slice none 0 0,.slice none 0 0,.slice none 0 0]:=Blk.new u6 37 #[.slice none 0 0,.slice none 0 0,.slice none 0 0,.slice none 0 0]
      have haG:X.drew.heap.size≤u6.heap.size:=Upd.size hx6
      have haX:Ext u6 (World.alloc u6 (.cells #[.slice none 0 0,.slice none 0 0,.slice none 0 0,.slice none 0 0] 37)):=(Upd.refl _ _).alloc _
      refine⟨_,fun _ h=>h,⟨⟨_,haE⟩,rfl⟩,?_⟩
      repeat (refine tree_q rfl (fun K hK=>?_);go_simp;refine hK _ ?_;clear hK K)
      have hB4:=Blk.new u6 37 #[.slice E0 i0 j0,.slice E1 i1 j1,.slice E2 i2 j2,.slice E3 i3 j3]
      have hE4:=Upd.alloc hx6 (.cells #[.slice E0 i0 j0,.slice E1 i1 j1,.slice E2 i2 j2,.slice E3 i3 j3] 37)
      have hX4:Ext u6 (World.alloc u6 (.cells #[.slice E0 i0 j0,.slice E1 i1 j1,.slice E2 i2 j2,.slice E3 i3 j3] 37)):=(Upd.refl _ _).alloc _
      refine tree_l rfl ?_
      go_wp2_with fail
      refine⟨_,fun _ h=>h,⟨⟨_,hE4⟩,rfl⟩,?_⟩
      repeat (refine tree_q rfl (fun K hK=>?_);go_simp;refine hK _ ?_;clear hK K)
      refine tree_done ?_
      try simp only[List.drop_succ_cons,List.drop_zero]
      go_wp2_with fail
      go_meet
      exact⟨_,E0,i0,j0,E1,i1,j1,E2,i2,j2,E3,i3,j3,AP,cP,rfl,rfl,rfl,hB4,(k0.ext hX4),(k1.ext hX4),(k2.ext hX4),(k3.ext hX4),⟨(hpP.1.ext hX4),hpP.2⟩,hXd.trans hE4⟩
    · skip
      go_wp2_with fail
      have haE:=Upd.alloc hx4 (.cells #[.slice none 0 0,.slice none 0 0,.slice none 0 0,.slice none 0 0] 37)
      have haB:Blk (World.alloc u4 (.cells #[.slice none 0 0,.slice none 0 0,.slice none 0 0,.slice none 0 0] 37)) u4.heap.size 37 #[.slice none 0 0,.slice none 0 0,.slice none 0 0,.slice none 0 0]:=Blk.new u4 37 #[.slice none 0 0,.slice none 0 0,.slice none 0 0,.slice none 0 0]
      have haG:X.drew.heap.size≤u4.heap.size:=Upd.size hx4
      have haX:Ext u4 (World.alloc u4 (.cells #[.slice none 0 0,.slice none 0 0,.slice none 0 0,.slice none 0 0] 37)):=(Upd.refl _ _).alloc _
      refine⟨_,fun _ h=>h,⟨⟨_,haE⟩,rfl⟩,?_⟩
      repeat (refine tree_q rfl (fun K hK=>?_);go_simp;refine hK _ ?_;clear hK K)
      refine tree_l rfl ?_
      go_wp2_with (go_at_call 12;go_must (refine(dprove_any gr P Q G H 32 _ _ _ _ A _ _ _ _ _ _ n c pn qn x side ((hGd.ext hu4).ext haX) ((hPd.ext hu4).ext haX) ((hQd.ext hu4).ext haX) (hV4.ext haX) ((hMd.ext hu4).ext haX) hFp hFq hFx hP hQ hP2 hQ64 (by omega) (by omega) (by omega) Hmp.out Hmq.out hxQ).mono ?_);rw[←HN.out,←Hprf.out,←Hy.out,←Hz.out];rintro e u6 ⟨E0,i0,j0,E1,i1,j1,E2,i2,j2,E3,i3,j3,AP,cP,rfl,k0,k1,k2,k3,hlp,hOp,hu6⟩;have hpt:=Own.pt hOp hlp;have hpP:Pt.ok u6 ⟨AP,N,cP,prf⟩:=⟨hpt.2.2.2,hpt.1,hpt.2.1,hpt.2.2.1⟩;clear hOp hpt;have hx6:=Upd.trans haE hu6)
      refine⟨_,fun _ h=>h,⟨⟨_,hx6⟩,rfl⟩,?_⟩
      repeat (refine tree_q rfl (fun K hK=>?_);go_simp;refine hK _ ?_;clear hK K)
      have y0:=(haB.ext hu6).at 0 rfl
      have x0:=(haB.ext hu6).frozen 0
      have y1:=(haB.ext hu6).at 1 rfl
      have x1:=(haB.ext hu6).frozen 1
      have y2:=(haB.ext hu6).at 2 rfl
      have x2:=(haB.ext hu6).frozen 2
      have y3:=(haB.ext hu6).at 3 rfl
      have x3:=(haB.ext hu6).frozen 3
      have hB4:=blk4 (haB.ext hu6) (.slice E0 i0 j0) (.slice E1 i1 j1) (.slice E2 i2 j2) (.slice E3 i3 j3)
      have hE4:=ext4 hx6 haG (.slice E0 i0 j0) (.slice E1 i1 j1) (.slice E2 i2 j2) (.slice E3 i3 j3)
      refine tree_l rfl ?_
      go_wp2_with fail
      refine⟨_,fun _ h=>h,⟨⟨_,hE4⟩,rfl⟩,?_⟩
      repeat (refine tree_q rfl (fun K hK=>?_);go_simp;refine hK _ ?_;clear hK K)
      refine tree_done ?_
      try simp only[List.drop_succ_cons,List.drop_zero]
      go_wp2_with fail
      go_meet
      exact⟨_,E0,i0,j0,E1,i1,j1,E2,i2,j2,E3,i3,j3,AP,cP,rfl,rfl,rfl,hB4,(nat4 (b0:=E0) (m0:=i0) (d0:=j0) (b1:=E1) (m1:=i1) (d1:=j1) (b2:=E2) (m2:=i2) (d2:=j2) (b3:=E3) (m3:=i3) (d3:=j3) k0 (haB.ext hu6)),(nat4 (b0:=E0) (m0:=i0) (d0:=j0) (b1:=E1) (m1:=i1) (d1:=j1) (b2:=E2) (m2:=i2) (d2:=j2) (b3:=E3) (m3:=i3) (d3:=j3) k1 (haB.ext hu6)),(nat4 (b0:=E0) (m0:=i0) (d0:=j0) (b1:=E1) (m1:=i1) (d1:=j1) (b2:=E2) (m2:=i2) (d2:=j2) (b3:=E3) (m3:=i3) (d3:=j3) k2 (haB.ext hu6)),(nat4 (b0:=E0) (m0:=i0) (d0:=j0) (b1:=E1) (m1:=i1) (d1:=j1) (b2:=E2) (m2:=i2) (d2:=j2) (b3:=E3) (m3:=i3) (d3:=j3) k3 (haB.ext hu6)),⟨(sl4 (b0:=E0) (m0:=i0) (d0:=j0) (b1:=E1) (m1:=i1) (d1:=j1) (b2:=E2) (m2:=i2) (d2:=j2) (b3:=E3) (m3:=i3) (d3:=j3) hpP.1 (haB.ext hu6)),hpP.2⟩,hXd.trans hE4⟩
  · skip
    go_wp2_with fail
    have haE:=Upd.alloc h0E (.cells #[.slice none 0 0,.slice none 0 0,.slice none 0 0,.slice none 0 0] 37)
    have haB:Blk (World.alloc X.drew (.cells #[.slice none 0 0,.slice none 0 0,.slice none 0 0,.slice none 0 0] 37)) X.heap.size 37 #[.slice none 0 0,.slice none 0 0,.slice none 0 0,.slice none 0 0]:=Blk.new X.drew 37 #[.slice none 0 0,.slice none 0 0,.slice none 0 0,.slice none 0 0]
    have haG:X.drew.heap.size≤X.heap.size:=Nat.le_refl _
    have haX:Ext X.drew (World.alloc X.drew (.cells #[.slice none 0 0,.slice none 0 0,.slice none 0 0,.slice none 0 0] 37)):=(Upd.refl _ _).alloc _
    refine⟨_,fun _ h=>h,⟨⟨_,haE⟩,rfl⟩,?_⟩
    repeat (refine tree_q rfl (fun K hK=>?_);go_simp;refine hK _ ?_;clear hK K)
    refine tree_l rfl ?_
    go_wp2_with (go_at_call 13;go_must (refine(new_any x _ hx64).mono ?_);rintro e u4 ⟨A4,l4,c4,rfl,hV4,hu4⟩;have hx4:=Upd.trans haE hu4)
    refine⟨_,fun _ h=>h,⟨⟨_,hx4⟩,rfl⟩,?_⟩
    repeat (refine tree_q rfl (fun K hK=>?_);go_simp;refine hK _ ?_;clear hK K)
    refine tree_l rfl ?_
    go_wp2_with (go_at_call 12;go_must (refine(dprove_any gr P Q G H 32 _ _ _ _ A _ _ _ _ _ _ n c pn qn x side ((hGd.ext haX).ext hu4) ((hPd.ext haX).ext hu4) ((hQd.ext haX).ext hu4) hV4 ((hMd.ext haX).ext hu4) hFp hFq hFx hP hQ hP2 hQ64 (by omega) (by omega) (by omega) Hmp.out Hmq.out hxQ).mono ?_);rw[←HN.out,←Hprf.out,←Hy.out,←Hz.out];rintro e u6 ⟨E0,i0,j0,E1,i1,j1,E2,i2,j2,E3,i3,j3,AP,cP,rfl,k0,k1,k2,k3,hlp,hOp,hu6⟩;have hpt:=Own.pt hOp hlp;have hpP:Pt.ok u6 ⟨AP,N,cP,prf⟩:=⟨hpt.2.2.2,hpt.1,hpt.2.1,hpt.2.2.1⟩;clear hOp hpt;have hx6:=Upd.trans hx4 hu6)
    refine⟨_,fun _ h=>h,⟨⟨_,hx6⟩,rfl⟩,?_⟩
    repeat (refine tree_q rfl (fun K hK=>?_);go_simp;refine hK _ ?_;clear hK K)
    have y0:=((haB.ext hu4).ext hu6).at 0 rfl
    have x0:=((haB.ext hu4).ext hu6).frozen 0
    have y1:=((haB.ext hu4).ext hu6).at 1 rfl
    have x1:=((haB.ext hu4).ext hu6).frozen 1
    have y2:=((haB.ext hu4).ext hu6).at 2 rfl
    have x2:=((haB.ext hu4).ext hu6).frozen 2
    have y3:=((haB.ext hu4).ext hu6).at 3 rfl
    have x3:=((haB.ext hu4).ext hu6).frozen 3
    have hB4:=blk4 ((haB.ext hu4).ext hu6) (.slice E0 i0 j0) (.slice E1 i1 j1) (.slice E2 i2 j2) (.slice E3 i3 j3)
    have hE4:=ext4 hx6 haG (.slice E0 i0 j0) (.slice E1 i1 j1) (.slice E2 i2 j2) (.slice E3 i3 j3)
    refine tree_l rfl ?_
    go_wp2_with fail
    refine⟨_,fun _ h=>h,⟨⟨_,hE4⟩,rfl⟩,?_⟩
    repeat (refine tree_q rfl (fun K hK=>?_);go_simp;refine hK _ ?_;clear hK K)
    refine tree_done ?_
    try simp only[List.drop_succ_cons,List.drop_zero]
    go_wp2_with fail
    go_meet
    exact⟨_,E0,i0,j0,E1,i1,j1,E2,i2,j2,E3,i3,j3,AP,cP,rfl,rfl,rfl,hB4,(nat4 (b0:=E0) (m0:=i0) (d0:=j0) (b1:=E1) (m1:=i1) (d1:=j1) (b2:=E2) (m2:=i2) (d2:=j2) (b3:=E3) (m3:=i3) (d3:=j3) k0 ((haB.ext hu4).ext hu6)),(nat4 (b0:=E0) (m0:=i0) (d0:=j0) (b1:=E1) (m1:=i1) (d1:=j1) (b2:=E2) (m2:=i2) (d2:=j2) (b3:=E3) (m3:=i3) (d3:=j3) k1 ((haB.ext hu4).ext hu6)),(nat4 (b0:=E0) (m0:=i0) (d0:=j0) (b1:=E1) (m1:=i1) (d1:=j1) (b2:=E2) (m2:=i2) (d2:=j2) (b3:=E3) (m3:=i3) (d3:=j3) k2 ((haB.ext hu4).ext hu6)),(nat4 (b0:=E0) (m0:=i0) (d0:=j0) (b1:=E1) (m1:=i1) (d1:=j1) (b2:=E2) (m2:=i2) (d2:=j2) (b3:=E3) (m3:=i3) (d3:=j3) k3 ((haB.ext hu4).ext hu6)),⟨(sl4 (b0:=E0) (m0:=i0) (d0:=j0) (b1:=E1) (m1:=i1) (d1:=j1) (b2:=E2) (m2:=i2) (d2:=j2) (b3:=E3) (m3:=i3) (d3:=j3) hpP.1 ((haB.ext hu4).ext hu6)),hpP.2⟩,hXd.trans hE4⟩
 case rest=>
  obtain⟨g17,E0,i0,j0,E1,i1,j1,E2,i2,j2,E3,i3,j3,AP,cP,rfl,rfl,rfl,b17,hK0,hK1,hK2,hK3,hPT,hXY⟩:=hcut
  have b14y:=b14.ext hXY
  have b15y:=b15.ext hXY
  have b16y:=b16.ext hXY
  have hPy:=hVp.ext hXY
  have hQy:=hVq.ext hXY
  have hGY:=hGX.ext hXY
  have hRY:=hRX.ext hXY
  have hEY:=hEX.trans hXY
  clear b14 b15 b16 hVp hVq hGX hRX hEX hXY
  go_wp2_with fail
  refine name_w (fun Y hY=>?_)
  subst hY
  go_cut [20,21,22] (fun s15 s16 s17 wx=>CutPn Y s15 s16 s17 wx)
  case first=>
   have hYd:Ext Y Y.drew:=(Upd.refl _ _).drew
   have q15:=fun y:Wd (Ext Y.drew)=>y.ok.cellv (b15y.ext hYd).cell
   have q16:=fun y:Wd (Ext Y.drew)=>y.ok.cellv (b16y.ext hYd).cell
   have hPd:=hPy.ext hYd
   have hQd:=hQy.ext hYd
   have h0E:Ext Y.drew Y.drew:=Upd.refl _ _
   refine wp_region_tree (Ext Y.drew) 13 (.q 0 (.q 1 (.q 2 (.q 4 (.two 3 10 (.two 5 10 (.q 6 (.q 7 (.q 8 (.q 9 (.l 10 (.l 11 (.q 12 .done))))))) (.l 5 (.q 6 (.q 7 (.q 8 (.q 9 (.l 11 (.q 12 .done)))))))) (.l 3 (.l 5 (.q 6 (.q 7 (.q 8 (.q 9 (.l 11 (.q 12 .done))))))))))))) (by kernel_rfl) (by kernel_rfl) (Upd.refl _ _) (fun hne=>?_)
   repeat (refine tree_q rfl (fun K hK=>?_);go_simp;refine hK _ ?_;clear hK K)
   refine tree_two rfl rfl ?_ ?_
   · skip
     go_wp2_with (go_at_call 13;go_must (refine(new_any x _ hx64).mono ?_);rintro e u4 ⟨A4,l4,c4,rfl,hV4,hu4⟩;have hx3:=Upd.trans h0E hu4)
     refine⟨_,fun _ h=>h,⟨⟨_,hx3⟩,rfl⟩,?_⟩
     repeat (refine tree_q rfl (fun K hK=>?_);go_simp;refine hK _ ?_;clear hK K)
     refine tree_two rfl rfl ?_ ?_
     · skip
       go_wp2_with (go_at_call 12;go_must (refine(dprove_nil _ _ _ _ A _ _ _ _ _ _ n c pn qn (hPd.ext hu4) (hQd.ext hu4)).mono ?_);rintro e u6 ⟨rfl,hu6⟩;have hx5:=Upd.trans hx3 hu6)
       refine⟨_,fun _ h=>h,⟨⟨_,hx5⟩,rfl⟩,?_⟩
       repeat (refine tree_q rfl (fun K hK=>?_);go_simp;refine hK _ ?_;clear hK K)
       refine tree_l rfl ?_
       go_wp2_with fail
       have haE:=Upd.alloc hx5 (.cells #[.slice none 0 0,.slice none 0 0,.slice none 0 0,.slice none 0 0] 37)
       have haB:Blk (World.alloc u6 (.cells #[.slice none 0 0,.slice none 0 0,.slice none 0 0,.slice none 0 0] 37)) u6.heap.size 37 #[.slice none 0 0,.slice none 0 0,.slice none 0 0,.slice none 0 0]:=Blk.new u6 37 #[.slice none 0 0,.slice none 0 0,.slice none 0 0,.slice none 0 0]
       have haG:Y.drew.heap.size≤u6.heap.size:=Upd.size hx5
       have haX:Ext u6 (World.alloc u6 (.cells #[.slice none 0 0,.slice none 0 0,.slice none 0 0,.slice none 0 0] 37)):=(Upd.refl _ _).alloc _
       refine⟨_,fun _ h=>h,⟨⟨_,haE⟩,rfl⟩,?_⟩
       repeat (refine tree_q rfl (fun K hK=>?_);go_simp;refine hK _ ?_;clear hK K)
       have hB4:=Blk.new u6 37 #[.slice none 0 0,.slice none 0 0,.slice none 0 0,.slice none 0 0]
       have hE4:=Upd.alloc hx5 (.cells #[.slice none 0 0,.slice none 0 0,.slice none 0 0,.slice none 0 0] 37)
       have hX4:Ext u6 (World.alloc u6 (.cells #[.slice none 0 0,.slice none 0 0,.slice none 0 0,.slice none 0 0] 37)):=(Upd.refl _ _).alloc _
       refine tree_l rfl ?_
       go_wp2_with fail
       refine⟨_,fun _ h=>h,⟨⟨_,hE4⟩,rfl⟩,?_⟩
       repeat (refine tree_q rfl (fun K hK=>?_);go_simp;refine hK _ ?_;clear hK K)
       refine tree_done ?_
       try simp only[List.drop_succ_cons,List.drop_zero]
       go_wp2_with fail
       go_meet
       exact⟨_,rfl,rfl,rfl,hB4,hYd.trans hE4⟩
     · skip
       go_wp2_with fail
       have haE:=Upd.alloc hx3 (.cells #[.slice none 0 0,.slice none 0 0,.slice none 0 0,.slice none 0 0] 37)
       have haB:Blk (World.alloc u4 (.cells #[.slice none 0 0,.slice none 0 0,.slice none 0 0,.slice none 0 0] 37)) u4.heap.size 37 #[.slice none 0 0,.slice none 0 0,.slice none 0 0,.slice none 0 0]:=Blk.new u4 37 #[.slice none 0 0,.slice none 0 0,.slice none 0 0,.slice none 0 0]
       have haG:Y.drew.heap.size≤u4.heap.size:=Upd.size hx3
       have haX:Ext u4 (World.alloc u4 (.cells #[.slice none 0 0,.slice none 0 0,.slice none 0 0,.slice none 0 0] 37)):=(Upd.refl _ _).alloc _
       refine⟨_,fun _ h=>h,⟨⟨_,haE⟩,rfl⟩,?_⟩
       repeat (refine tree_q rfl (fun K hK=>?_);go_simp;refine hK _ ?_;clear hK K)
       refine tree_l rfl ?_
       go_wp2_with (go_at_call 12;go_must (refine(dprove_nil _ _ _ _ A _ _ _ _ _ _ n c pn qn ((hPd.ext hu4).ext haX) ((hQd.ext hu4).ext haX)).mono ?_);rintro e u6 ⟨rfl,hu6⟩;have hx5:=Upd.trans haE hu6)
       refine⟨_,fun _ h=>h,⟨⟨_,hx5⟩,rfl⟩,?_⟩
       repeat (refine tree_q rfl (fun K hK=>?_);go_simp;refine hK _ ?_;clear hK K)
       have y0:=(haB.ext hu6).at 0 rfl
       have x0:=(haB.ext hu6).frozen 0
       have y1:=(haB.ext hu6).at 1 rfl
       have x1:=(haB.ext hu6).frozen 1
       have y2:=(haB.ext hu6).at 2 rfl
       have x2:=(haB.ext hu6).frozen 2
       have y3:=(haB.ext hu6).at 3 rfl
       have x3:=(haB.ext hu6).frozen 3
       have hB4:=blk4 (haB.ext hu6) (.slice none 0 0) (.slice none 0 0) (.slice none 0 0) (.slice none 0 0)
       have hE4:=ext4 hx5 haG (.slice none 0 0) (.slice none 0 0) (.slice none 0 0) (.slice none 0 0)
       refine tree_l rfl ?_
       go_wp2_with fail
       refine⟨_,fun _ h=>h,⟨⟨_,hE4⟩,rfl⟩,?_⟩
       repeat (refine tree_q rfl (fun K hK=>?_);go_simp;refine hK _ ?_;clear hK K)
       refine tree_done ?_
       try simp only[List.drop_succ_cons,List.drop_zero]
       go_wp2_with fail
       go_meet
       exact⟨_,rfl,rfl,rfl,hB4,hYd.trans hE4⟩
   · skip
     go_wp2_with fail
     have haE:=Upd.alloc h0E (.cells #[.slice none 0 0,.slice none 0 0,.slice none 0 0,.slice none 0 0] 37)
     have haB:Blk (World.alloc Y.drew (.cells #[.slice none 0 0,.slice none 0 0,.slice none 0 0,.slice none 0 0] 37)) Y.heap.size 37 #[.slice none 0 0,.slice none 0 0,.slice none 0 0,.slice none 0 0]:=Blk.new Y.drew 37 #[.slice none 0 0,.slice none 0 0,.slice none 0 0,.slice none 0 0]
     have haG:Y.drew.heap.size≤Y.heap.size:=Nat.le_refl _
     have haX:Ext Y.drew (World.alloc Y.drew (.cells #[.slice none 0 0,.slice none 0 0,.slice none 0 0,.slice none 0 0] 37)):=(Upd.refl _ _).alloc _
     refine⟨_,fun _ h=>h,⟨⟨_,haE⟩,rfl⟩,?_⟩
     repeat (refine tree_q rfl (fun K hK=>?_);go_simp;refine hK _ ?_;clear hK K)
     refine tree_l rfl ?_
     go_wp2_with (go_at_call 13;go_must (refine(new_any x _ hx64).mono ?_);rintro e u4 ⟨A4,l4,c4,rfl,hV4,hu4⟩;have hx3:=Upd.trans haE hu4)
     refine⟨_,fun _ h=>h,⟨⟨_,hx3⟩,rfl⟩,?_⟩
     repeat (refine tree_q rfl (fun K hK=>?_);go_simp;refine hK _ ?_;clear hK K)
     refine tree_l rfl ?_
     go_wp2_with (go_at_call 12;go_must (refine(dprove_nil _ _ _ _ A _ _ _ _ _ _ n c pn qn ((hPd.ext haX).ext hu4) ((hQd.ext haX).ext hu4)).mono ?_);rintro e u6 ⟨rfl,hu6⟩;have hx5:=Upd.trans hx3 hu6)
     refine⟨_,fun _ h=>h,⟨⟨_,hx5⟩,rfl⟩,?_⟩
     repeat (refine tree_q rfl (fun K hK=>?_);go_simp;refine hK _ ?_;clear hK K)
     have y0:=((haB.ext hu4).ext hu6).at 0 rfl
     have x0:=((haB.ext hu4).ext hu6).frozen 0
     have y1:=((haB.ext hu4).ext hu6).at 1 rfl
     have x1:=((haB.ext hu4).ext hu6).frozen 1
     have y2:=((haB.ext hu4).ext hu6).at 2 rfl
     have x2:=((haB.ext hu4).ext hu6).frozen 2
     have y3:=((haB.ext hu4).ext hu6).at 3 rfl
     have x3:=((haB.ext hu4).ext hu6).frozen 3
     have hB4:=blk4 ((haB.ext hu4).ext hu6) (.slice none 0 0) (.slice none 0 0) (.slice none 0 0) (.slice none 0 0)
     have hE4:=ext4 hx5 haG (.slice none 0 0) (.slice none 0 0) (.slice none 0 0) (.slice none 0 0)
     refine tree_l rfl ?_
     go_wp2_with fail
     refine⟨_,fun _ h=>h,⟨⟨_,hE4⟩,rfl⟩,?_⟩
     repeat (refine tree_q rfl (fun K hK=>?_);go_simp;refine hK _ ?_;clear hK K)
     refine tree_done ?_
     try simp only[List.drop_succ_cons,List.drop_zero]
     go_wp2_with fail
     go_meet
     exact⟨_,rfl,rfl,rfl,hB4,hYd.trans hE4⟩
  case rest=>
   obtain⟨g20,rfl,rfl,rfl, -,hYW⟩:=hcut
   have b14w:=b14y.ext hYW
   have b15w:=b15y.ext hYW
   have b16w:=b16y.ext hYW
   have hPw:=hPy.ext hYW
   have hQw:=hQy.ext hYW
   have hGW:=hGY.ext hYW
   have hRW:=hRY.ext hYW
   have hEW:=hEY.trans hYW
   have q15:=b15w.cell
   go_wp2_with fail
   clear q15
   refine(gMember_any gr P Q G H 32 wc _ pn hGW hPw hFp hP hQ (by omega) (by omega)).mono ?_
   rw[Hmp.out]
   rintro e x1 ⟨rfl,hx1⟩
   go_wp2_with fail
   refine(new_any x _ hx64).mono ?_
   rintro e x2 ⟨A20,l20,c20,rfl,hVx,hx2⟩
   go_wp2_with fail
   refine(gField_any gr P Q G H _ (hGW.ext (hx1.trans hx2))).mono ?_
   rintro e x3 ⟨gq,rfl,hRq,rfl⟩
   go_wp2_with fail
   refine(mmod_any gq Q _ hRq).mono ?_
   rintro e x4 ⟨A21,l21,c21,rfl,hVQ,hx4⟩
   go_wp2_with fail
   refine(cmp_any _ _ x Q 32 _ (hVx.ext hx4) hVQ hFx hQ (by omega)).mono ?_
   rw[cmpI_lt hxQ]
   rintro e x5 ⟨rfl,hx5⟩
   have hw5:=((hx1.trans hx2).trans hx4).trans hx5
   have hYZ:=hYW.trans hw5
   have b14z:=b14w.ext hw5
   have b15z:=b15w.ext hw5
   have b16z:=b16w.ext hw5
   have hPz:=hPw.ext hw5
   have hQz:=hQw.ext hw5
   have hRZ:=hRW.ext hw5
   have hEZ:=hEW.trans hw5
   have b17z:=b17.ext hYZ
   have hZ0:=hK0.ext hYZ
   have hZ1:=hK1.ext hYZ
   have hZ2:=hK2.ext hYZ
   have hZ3:=hK3.ext hYZ
   have hPTz:=hPT.ext hYZ
   clear b14w b15w b16w hPw hQw hGW hRW hEW b17 hK0 hK1 hK2 hK3 hPT hYZ hYW hx1 hx2 hx4 hx5 hw5 hVx hRq hVQ b14y b15y b16y hPy hQy hGY hRY hEY
   go_wp2_with fail
   refine name_w (fun Z hZ=>?_)
   subst hZ
   go_cut [23,24] (fun s23 s24 wx=>CutRp Z N pn qn y z prf s23 s24 wx)
   case first=>
    have hZd:Ext Z Z.drew:=(Upd.refl _ _).drew
    have q15:=fun y:Wd (Ext Z.drew)=>y.ok.cellv (b15z.ext hZd).cell
    have q16:=fun y:Wd (Ext Z.drew)=>y.ok.cellv (b16z.ext hZd).cell
    have y0:=fun y:Wd (Ext Z.drew)=>y.ok.cellv ((b14z.ext hZd).at 0 rfl)
    have y1:=fun y:Wd (Ext Z.drew)=>y.ok.cellv ((b14z.ext hZd).at 1 rfl)
    have y2:=fun y:Wd (Ext Z.drew)=>y.ok.cellv ((b14z.ext hZd).at 2 rfl)
    have y3:=fun y:Wd (Ext Z.drew)=>y.ok.cellv ((b14z.ext hZd).at 3 rfl)
    have hPd:=hPz.ext hZd
    have hQd:=hQz.ext hZd
    have hRd:=hRZ.ext hZd
    have hMd:=HM.out.ext (hEZ.trans hZd)
    have h0E:Ext Z.drew Z.drew:=Upd.refl _ _
    refine wp_region_tree (Ext Z.drew) 15 (.q 0 (.q 1 (.q 3 (.q 5 (.q 8 (.two 2 13 (.two 4 13 (.two 6 13 (.two 7 13 (.two 9 13 (.q 10 (.q 11 (.q 12 (.l 13 (.l 14 .done))))) (.l 9 (.q 10 (.q 11 (.q 12 (.l 14 .done)))))) (.l 7 (.l 9 (.q 10 (.q 11 (.q 12 (.l 14 .done))))))) (.l 6 (.l 7 (.l 9 (.q 10 (.q 11 (.q 12 (.l 14 .done)))))))) (.l 4 (.l 6 (.l 7 (.l 9 (.q 10 (.q 11 (.q 12 (.l 14 .done))))))))) (.l 2 (.l 4 (.l 6 (.l 7 (.l 9 (.q 10 (.q 11 (.q 12 (.l 14 .done))))))))))))))) (by kernel_rfl) (by kernel_rfl) (Upd.refl _ _) (fun hne=>?_)
    repeat (refine tree_q rfl (fun K hK=>?_);go_simp;refine hK _ ?_;clear hK K)
    refine tree_two rfl rfl ?_ ?_
    · skip
      go_wp2_with (go_at_call 20;go_must (refine(gnum_any _ pn 32 _ hPd hFp (by omega)).mono ?_);rintro e u2 ⟨A22,l22,c22,rfl,hR2,hu2⟩;have hx2:=Upd.trans h0E hu2)
      refine⟨_,fun _ h=>h,⟨⟨_,hx2⟩,rfl⟩,?_⟩
      repeat (refine tree_q rfl (fun K hK=>?_);go_simp;refine hK _ ?_;clear hK K)
      refine tree_two rfl rfl ?_ ?_
      · skip
        go_wp2_with (go_at_call 20;go_must (refine(gnum_any _ qn 32 _ (hQd.ext hu2) hFq (by omega)).mono ?_);rintro e u4 ⟨A24,l24,c24,rfl,hR4,hu4⟩;have hx4:=Upd.trans hx2 hu4)
        refine⟨_,fun _ h=>h,⟨⟨_,hx4⟩,rfl⟩,?_⟩
        repeat (refine tree_q rfl (fun K hK=>?_);go_simp;refine hK _ ?_;clear hK K)
        refine tree_two rfl rfl ?_ ?_
        · skip
          go_wp2_with (go_at_call 13;go_must (refine(new_any x _ hx64).mono ?_);rintro e u6 ⟨A26,l26,c26,rfl,hV6,hu6⟩;have hx6:=Upd.trans hx4 hu6)
          refine⟨_,fun _ h=>h,⟨⟨_,hx6⟩,rfl⟩,?_⟩
          repeat (refine tree_q rfl (fun K hK=>?_);go_simp;refine hK _ ?_;clear hK K)
          refine tree_two rfl rfl ?_ ?_
          · skip
            go_wp2_with (go_at_call 20;go_must (refine(gnum_any _ x 32 _ hV6 hFx (by omega)).mono ?_);rintro e u7 ⟨A27,l27,c27,rfl,hR7,hu7⟩;have hx7:=Upd.trans hx6 hu7)
            refine⟨_,fun _ h=>h,⟨⟨_,hx7⟩,rfl⟩,?_⟩
            repeat (refine tree_q rfl (fun K hK=>?_);go_simp;refine hK _ ?_;clear hK K)
            refine tree_two rfl rfl ?_ ?_
            · skip
              go_wp2_with (go_at_call 19;go_must (refine(rprove_any _ _ P Q G H _ _ _ pn qn x A n c side ((((hRd.ext hu2).ext hu4).ext hu6).ext hu7) (((hR2.ext hu4).ext hu6).ext hu7) ((hR4.ext hu6).ext hu7) hR7 ((((hMd.ext hu2).ext hu4).ext hu6).ext hu7) Hmp.out Hmq.out hP2 hQ64 hPb hQb (by omega) hxQ).mono ?_);rw[←HN.out,←Hprf.out,←Hy.out,←Hz.out];rintro e u9 ⟨vc,AR,cR,rfl,hC9,hP9,hu9⟩;obtain⟨F0,p0,s0,F1,p1,s1,F2,p2,s2,F3,p3,s3,rfl,r0,r1,r2,r3⟩:=hC9;have hx9:=Upd.trans hx7 hu9)
              refine⟨_,fun _ h=>h,⟨⟨_,hx9⟩,rfl⟩,?_⟩
              repeat (refine tree_q rfl (fun K hK=>?_);go_simp;refine hK _ ?_;clear hK K)
              refine tree_l rfl ?_
              go_wp2_with fail
              have haE:=Upd.alloc hx9 (.cells #[.slice none 0 0,.slice none 0 0,.slice none 0 0,.slice none 0 0] 48)
              have haB:Blk (World.alloc u9 (.cells #[.slice none 0 0,.slice none 0 0,.slice none 0 0,.slice none 0 0] 48)) u9.heap.size 48 #[.slice none 0 0,.slice none 0 0,.slice none 0 0,.slice none 0 0]:=Blk.new u9 48 #[.slice none 0 0,.slice none 0 0,.slice none 0 0,.slice none 0 0]
              have haG:Z.drew.heap.size≤u9.heap.size:=Upd.size hx9
              have haX:Ext u9 (World.alloc u9 (.cells #[.slice none 0 0,.slice none 0 0,.slice none 0 0,.slice none 0 0] 48)):=(Upd.refl _ _).alloc _
              refine⟨_,fun _ h=>h,⟨⟨_,haE⟩,rfl⟩,?_⟩
              repeat (refine tree_q rfl (fun K hK=>?_);go_simp;refine hK _ ?_;clear hK K)
              have hB4:=Blk.new u9 48 #[.slice F0 p0 s0,.slice F1 p1 s1,.slice F2 p2 s2,.slice F3 p3 s3]
              have hE4:=Upd.alloc hx9 (.cells #[.slice F0 p0 s0,.slice F1 p1 s1,.slice F2 p2 s2,.slice F3 p3 s3] 48)
              have hX4:Ext u9 (World.alloc u9 (.cells #[.slice F0 p0 s0,.slice F1 p1 s1,.slice F2 p2 s2,.slice F3 p3 s3] 48)):=(Upd.refl _ _).alloc _
              refine tree_l rfl ?_
              go_wp2_with fail
              refine⟨_,fun _ h=>h,⟨⟨_,hE4⟩,rfl⟩,?_⟩
              repeat (refine tree_q rfl (fun K hK=>?_);go_simp;refine hK _ ?_;clear hK K)
              refine tree_done ?_
              try simp only[List.drop_succ_cons,List.drop_zero]
              go_wp2_with fail
              go_meet
              exact⟨_,F0,p0,s0,F1,p1,s1,F2,p2,s2,F3,p3,s3,AR,cR,rfl,rfl,hB4,(r0.ext hX4),(r1.ext hX4),(r2.ext hX4),(r3.ext hX4),⟨(hP9.1.ext hX4),hP9.2⟩,hZd.trans hE4⟩
            · skip
              go_wp2_with fail
              have haE:=Upd.alloc hx7 (.cells #[.slice none 0 0,.slice none 0 0,.slice none 0 0,.slice none 0 0] 48)
              have haB:Blk (World.alloc u7 (.cells #[.slice none 0 0,.slice none 0 0,.slice none 0 0,.slice none 0 0] 48)) u7.heap.size 48 #[.slice none 0 0,.slice none 0 0,.slice none 0 0,.slice none 0 0]:=Blk.new u7 48 #[.slice none 0 0,.slice none 0 0,.slice none 0 0,.slice none 0 0]
              have haG:Z.drew.heap.size≤u7.heap.size:=Upd.size hx7
              have haX:Ext u7 (World.alloc u7 (.cells #[.slice none 0 0,.slice none 0 0,.slice none 0 0,.slice none 0 0] 48)):=(Upd.refl _ _).alloc _
              refine⟨_,fun _ h=>h,⟨⟨_,haE⟩,rfl⟩,?_⟩
              repeat (refine tree_q rfl (fun K hK=>?_);go_simp;refine hK _ ?_;clear hK K)
              refine tree_l rfl ?_
              go_wp2_with (go_at_call 19;go_must (refine(rprove_any _ _ P Q G H _ _ _ pn qn x A n c side (((((hRd.ext hu2).ext hu4).ext hu6).ext hu7).ext haX) ((((hR2.ext hu4).ext hu6).ext hu7).ext haX) (((hR4.ext hu6).ext hu7).ext haX) (hR7.ext haX) (((((hMd.ext hu2).ext hu4).ext hu6).ext hu7).ext haX) Hmp.out Hmq.out hP2 hQ64 hPb hQb (by omega) hxQ).mono ?_);rw[←HN.out,←Hprf.out,←Hy.out,←Hz.out];rintro e u9 ⟨vc,AR,cR,rfl,hC9,hP9,hu9⟩;obtain⟨F0,p0,s0,F1,p1,s1,F2,p2,s2,F3,p3,s3,rfl,r0,r1,r2,r3⟩:=hC9;have hx9:=Upd.trans haE hu9)
              refine⟨_,fun _ h=>h,⟨⟨_,hx9⟩,rfl⟩,?_⟩
              repeat (refine tree_q rfl (fun K hK=>?_);go_simp;refine hK _ ?_;clear hK K)
              have y0:=(haB.ext hu9).at 0 rfl
              have x0:=(haB.ext hu9).frozen 0
              have y1:=(haB.ext hu9).at 1 rfl
              have x1:=(haB.ext hu9).frozen 1
              have y2:=(haB.ext hu9).at 2 rfl
              have x2:=(haB.ext hu9).frozen 2
              have y3:=(haB.ext hu9).at 3 rfl
              have x3:=(haB.ext hu9).frozen 3
              have hB4:=blk4 (haB.ext hu9) (.slice F0 p0 s0) (.slice F1 p1 s1) (.slice F2 p2 s2) (.slice F3 p3 s3)
              have hE4:=ext4 hx9 haG (.slice F0 p0 s0) (.slice F1 p1 s1) (.slice F2 p2 s2) (.slice F3 p3 s3)
              refine tree_l rfl ?_
              go_wp2_with fail
              refine⟨_,fun _ h=>h,⟨⟨_,hE4⟩,rfl⟩,?_⟩
              repeat (refine tree_q rfl (fun K hK=>?_);go_simp;refine hK _ ?_;clear hK K)
              refine tree_done ?_
              try simp only[List.drop_succ_cons,List.drop_zero]
              go_wp2_with fail
              go_meet
              exact⟨_,F0,p0,s0,F1,p1,s1,F2,p2,s2,F3,p3,s3,AR,cR,rfl,rfl,hB4,(ref4 (b0:=F0) (m0:=p0) (d0:=s0) (b1:=F1) (m1:=p1) (d1:=s1) (b2:=F2) (m2:=p2) (d2:=s2) (b3:=F3) (m3:=p3) (d3:=s3) r0 (haB.ext hu9)),(ref4 (b0:=F0) (m0:=p0) (d0:=s0) (b1:=F1) (m1:=p1) (d1:=s1) (b2:=F2) (m2:=p2) (d2:=s2) (b3:=F3) (m3:=p3) (d3:=s3) r1 (haB.ext hu9)),(ref4 (b0:=F0) (m0:=p0) (d0:=s0) (b1:=F1) (m1:=p1) (d1:=s1) (b2:=F2) (m2:=p2) (d2:=s2) (b3:=F3) (m3:=p3) (d3:=s3) r2 (haB.ext hu9)),(ref4 (b0:=F0) (m0:=p0) (d0:=s0) (b1:=F1) (m1:=p1) (d1:=s1) (b2:=F2) (m2:=p2) (d2:=s2) (b3:=F3) (m3:=p3) (d3:=s3) r3 (haB.ext hu9)),⟨(sl4 (b0:=F0) (m0:=p0) (d0:=s0) (b1:=F1) (m1:=p1) (d1:=s1) (b2:=F2) (m2:=p2) (d2:=s2) (b3:=F3) (m3:=p3) (d3:=s3) hP9.1 (haB.ext hu9)),hP9.2⟩,hZd.trans hE4⟩
          · skip
            go_wp2_with fail
            have haE:=Upd.alloc hx6 (.cells #[.slice none 0 0,.slice none 0 0,.slice none 0 0,.slice none 0 0] 48)
            have haB:Blk (World.alloc u6 (.cells #[.slice none 0 0,.slice none 0 0,.slice none 0 0,.slice none 0 0] 48)) u6.heap.size 48 #[.slice none 0 0,.slice none 0 0,.slice none 0 0,.slice none 0 0]:=Blk.new u6 48 #[.slice none 0 0,.slice none 0 0,.slice none 0 0,.slice none 0 0]
            have haG:Z.drew.heap.size≤u6.heap.size:=Upd.size hx6
            have haX:Ext u6 (World.alloc u6 (.cells #[.slice none 0 0,.slice none 0 0,.slice none 0 0,.slice none 0 0] 48)):=(Upd.refl _ _).alloc _
            refine⟨_,fun _ h=>h,⟨⟨_,haE⟩,rfl⟩,?_⟩
            repeat (refine tree_q rfl (fun K hK=>?_);go_simp;refine hK _ ?_;clear hK K)
            refine tree_l rfl ?_
            go_wp2_with (go_at_call 20;go_must (refine(gnum_any _ x 32 _ (hV6.ext haX) hFx (by omega)).mono ?_);rintro e u7 ⟨A27,l27,c27,rfl,hR7,hu7⟩;have hx7:=Upd.trans haE hu7)
            refine⟨_,fun _ h=>h,⟨⟨_,hx7⟩,rfl⟩,?_⟩
            repeat (refine tree_q rfl (fun K hK=>?_);go_simp;refine hK _ ?_;clear hK K)
            refine tree_l rfl ?_
            go_wp2_with (go_at_call 19;go_must (refine(rprove_any _ _ P Q G H _ _ _ pn qn x A n c side (((((hRd.ext hu2).ext hu4).ext hu6).ext haX).ext hu7) ((((hR2.ext hu4).ext hu6).ext haX).ext hu7) (((hR4.ext hu6).ext haX).ext hu7) hR7 (((((hMd.ext hu2).ext hu4).ext hu6).ext haX).ext hu7) Hmp.out Hmq.out hP2 hQ64 hPb hQb (by omega) hxQ).mono ?_);rw[←HN.out,←Hprf.out,←Hy.out,←Hz.out];rintro e u9 ⟨vc,AR,cR,rfl,hC9,hP9,hu9⟩;obtain⟨F0,p0,s0,F1,p1,s1,F2,p2,s2,F3,p3,s3,rfl,r0,r1,r2,r3⟩:=hC9;have hx9:=Upd.trans hx7 hu9)
            refine⟨_,fun _ h=>h,⟨⟨_,hx9⟩,rfl⟩,?_⟩
            repeat (refine tree_q rfl (fun K hK=>?_);go_simp;refine hK _ ?_;clear hK K)
            have y0:=((haB.ext hu7).ext hu9).at 0 rfl
            have x0:=((haB.ext hu7).ext hu9).frozen 0
            have y1:=((haB.ext hu7).ext hu9).at 1 rfl
            have x1:=((haB.ext hu7).ext hu9).frozen 1
            have y2:=((haB.ext hu7).ext hu9).at 2 rfl
            have x2:=((haB.ext hu7).ext hu9).frozen 2
            have y3:=((haB.ext hu7).ext hu9).at 3 rfl
            have x3:=((haB.ext hu7).ext hu9).frozen 3
            have hB4:=blk4 ((haB.ext hu7).ext hu9) (.slice F0 p0 s0) (.slice F1 p1 s1) (.slice F2 p2 s2) (.slice F3 p3 s3)
            have hE4:=ext4 hx9 haG (.slice F0 p0 s0) (.slice F1 p1 s1) (.slice F2 p2 s2) (.slice F3 p3 s3)
            refine tree_l rfl ?_
            go_wp2_with fail
            refine⟨_,fun _ h=>h,⟨⟨_,hE4⟩,rfl⟩,?_⟩
            repeat (refine tree_q rfl (fun K hK=>?_);go_simp;refine hK _ ?_;clear hK K)
            refine tree_done ?_
            try simp only[List.drop_succ_cons,List.drop_zero]
            go_wp2_with fail
            go_meet
            exact⟨_,F0,p0,s0,F1,p1,s1,F2,p2,s2,F3,p3,s3,AR,cR,rfl,rfl,hB4,(ref4 (b0:=F0) (m0:=p0) (d0:=s0) (b1:=F1) (m1:=p1) (d1:=s1) (b2:=F2) (m2:=p2) (d2:=s2) (b3:=F3) (m3:=p3) (d3:=s3) r0 ((haB.ext hu7).ext hu9)),(ref4 (b0:=F0) (m0:=p0) (d0:=s0) (b1:=F1) (m1:=p1) (d1:=s1) (b2:=F2) (m2:=p2) (d2:=s2) (b3:=F3) (m3:=p3) (d3:=s3) r1 ((haB.ext hu7).ext hu9)),(ref4 (b0:=F0) (m0:=p0) (d0:=s0) (b1:=F1) (m1:=p1) (d1:=s1) (b2:=F2) (m2:=p2) (d2:=s2) (b3:=F3) (m3:=p3) (d3:=s3) r2 ((haB.ext hu7).ext hu9)),(ref4 (b0:=F0) (m0:=p0) (d0:=s0) (b1:=F1) (m1:=p1) (d1:=s1) (b2:=F2) (m2:=p2) (d2:=s2) (b3:=F3) (m3:=p3) (d3:=s3) r3 ((haB.ext hu7).ext hu9)),⟨(sl4 (b0:=F0) (m0:=p0) (d0:=s0) (b1:=F1) (m1:=p1) (d1:=s1) (b2:=F2) (m2:=p2) (d2:=s2) (b3:=F3) (m3:=p3) (d3:=s3) hP9.1 ((haB.ext hu7).ext hu9)),hP9.2⟩,hZd.trans hE4⟩
        · skip
          go_wp2_with fail
          have haE:=Upd.alloc hx4 (.cells #[.slice none 0 0,.slice none 0 0,.slice none 0 0,.slice none 0 0] 48)
          have haB:Blk (World.alloc u4 (.cells #[.slice none 0 0,.slice none 0 0,.slice none 0 0,.slice none 0 0] 48)) u4.heap.size 48 #[.slice none 0 0,.slice none 0 0,.slice none 0 0,.slice none 0 0]:=Blk.new u4 48 #[.slice none 0 0,.slice none 0 0,.slice none 0 0,.slice none 0 0]
          have haG:Z.drew.heap.size≤u4.heap.size:=Upd.size hx4
          have haX:Ext u4 (World.alloc u4 (.cells #[.slice none 0 0,.slice none 0 0,.slice none 0 0,.slice none 0 0] 48)):=(Upd.refl _ _).alloc _
          refine⟨_,fun _ h=>h,⟨⟨_,haE⟩,rfl⟩,?_⟩
          repeat (refine tree_q rfl (fun K hK=>?_);go_simp;refine hK _ ?_;clear hK K)
          refine tree_l rfl ?_
          go_wp2_with (go_at_call 13;go_must (refine(new_any x _ hx64).mono ?_);rintro e u6 ⟨A26,l26,c26,rfl,hV6,hu6⟩;have hx6:=Upd.trans haE hu6)
          refine⟨_,fun _ h=>h,⟨⟨_,hx6⟩,rfl⟩,?_⟩
          repeat (refine tree_q rfl (fun K hK=>?_);go_simp;refine hK _ ?_;clear hK K)
          refine tree_l rfl ?_
          go_wp2_with (go_at_call 20;go_must (refine(gnum_any _ x 32 _ hV6 hFx (by omega)).mono ?_);rintro e u7 ⟨A27,l27,c27,rfl,hR7,hu7⟩;have hx7:=Upd.trans hx6 hu7)
          refine⟨_,fun _ h=>h,⟨⟨_,hx7⟩,rfl⟩,?_⟩
          repeat (refine tree_q rfl (fun K hK=>?_);go_simp;refine hK _ ?_;clear hK K)
          refine tree_l rfl ?_
          go_wp2_with (go_at_call 19;go_must (refine(rprove_any _ _ P Q G H _ _ _ pn qn x A n c side (((((hRd.ext hu2).ext hu4).ext haX).ext hu6).ext hu7) ((((hR2.ext hu4).ext haX).ext hu6).ext hu7) (((hR4.ext haX).ext hu6).ext hu7) hR7 (((((hMd.ext hu2).ext hu4).ext haX).ext hu6).ext hu7) Hmp.out Hmq.out hP2 hQ64 hPb hQb (by omega) hxQ).mono ?_);rw[←HN.out,←Hprf.out,←Hy.out,←Hz.out];rintro e u9 ⟨vc,AR,cR,rfl,hC9,hP9,hu9⟩;obtain⟨F0,p0,s0,F1,p1,s1,F2,p2,s2,F3,p3,s3,rfl,r0,r1,r2,r3⟩:=hC9;have hx9:=Upd.trans hx7 hu9)
          refine⟨_,fun _ h=>h,⟨⟨_,hx9⟩,rfl⟩,?_⟩
          repeat (refine tree_q rfl (fun K hK=>?_);go_simp;refine hK _ ?_;clear hK K)
          have y0:=(((haB.ext hu6).ext hu7).ext hu9).at 0 rfl
          have x0:=(((haB.ext hu6).ext hu7).ext hu9).frozen 0
          have y1:=(((haB.ext hu6).ext hu7).ext hu9).at 1 rfl
          have x1:=(((haB.ext hu6).ext hu7).ext hu9).frozen 1
          have y2:=(((haB.ext hu6).ext hu7).ext hu9).at 2 rfl
          have x2:=(((haB.ext hu6).ext hu7).ext hu9).frozen 2
          have y3:=(((haB.ext hu6).ext hu7).ext hu9).at 3 rfl
          have x3:=(((haB.ext hu6).ext hu7).ext hu9).frozen 3
          have hB4:=blk4 (((haB.ext hu6).ext hu7).ext hu9) (.slice F0 p0 s0) (.slice F1 p1 s1) (.slice F2 p2 s2) (.slice F3 p3 s3)
          have hE4:=ext4 hx9 haG (.slice F0 p0 s0) (.slice F1 p1 s1) (.slice F2 p2 s2) (.slice F3 p3 s3)
          refine tree_l rfl ?_
          go_wp2_with fail
          refine⟨_,fun _ h=>h,⟨⟨_,hE4⟩,rfl⟩,?_⟩
          repeat (refine tree_q rfl (fun K hK=>?_);go_simp;refine hK _ ?_;clear hK K)
          refine tree_done ?_
          try simp only[List.drop_succ_cons,List.drop_zero]
          go_wp2_with fail
          go_meet
          exact⟨_,F0,p0,s0,F1,p1,s1,F2,p2,s2,F3,p3,s3,AR,cR,rfl,rfl,hB4,(ref4 (b0:=F0) (m0:=p0) (d0:=s0) (b1:=F1) (m1:=p1) (d1:=s1) (b2:=F2) (m2:=p2) (d2:=s2) (b3:=F3) (m3:=p3) (d3:=s3) r0 (((haB.ext hu6).ext hu7).ext hu9)),(ref4 (b0:=F0) (m0:=p0) (d0:=s0) (b1:=F1) (m1:=p1) (d1:=s1) (b2:=F2) (m2:=p2) (d2:=s2) (b3:=F3) (m3:=p3) (d3:=s3) r1 (((haB.ext hu6).ext hu7).ext hu9)),(ref4 (b0:=F0) (m0:=p0) (d0:=s0) (b1:=F1) (m1:=p1) (d1:=s1) (b2:=F2) (m2:=p2) (d2:=s2) (b3:=F3) (m3:=p3) (d3:=s3) r2 (((haB.ext hu6).ext hu7).ext hu9)),(ref4 (b0:=F0) (m0:=p0) (d0:=s0) (b1:=F1) (m1:=p1) (d1:=s1) (b2:=F2) (m2:=p2) (d2:=s2) (b3:=F3) (m3:=p3) (d3:=s3) r3 (((haB.ext hu6).ext hu7).ext hu9)),⟨(sl4 (b0:=F0) (m0:=p0) (d0:=s0) (b1:=F1) (m1:=p1) (d1:=s1) (b2:=F2) (m2:=p2) (d2:=s2) (b3:=F3) (m3:=p3) (d3:=s3) hP9.1 (((haB.ext hu6).ext hu7).ext hu9)),hP9.2⟩,hZd.trans hE4⟩
      · skip
        go_wp2_with fail
        have haE:=Upd.alloc hx2 (.cells #[.slice none 0 0,.slice none 0 0,.slice none 0 0,.slice none 0 0] 48)
        have haB:Blk (World.alloc u2 (.cells #[.slice none 0 0,.slice none 0 0,.slice none 0 0,.slice none 0 0] 48)) u2.heap.size 48 #[.slice none 0 0,.slice none 0 0,.slice none 0 0,.slice none 0 0]:=Blk.new u2 48 #[.slice none 0 0,.slice none 0 0,.slice none 0 0,.slice none 0 0]
        have haG:Z.drew.heap.size≤u2.heap.size:=Upd.size hx2
        have haX:Ext u2 (World.alloc u2 (.cells #[.slice none 0 0,.slice none 0 0,.slice none 0 0,.slice none 0 0] 48)):=(Upd.refl _ _).alloc _
        refine⟨_,fun _ h=>h,⟨⟨_,haE⟩,rfl⟩,?_⟩
        repeat (refine tree_q rfl (fun K hK=>?_);go_simp;refine hK _ ?_;clear hK K)
        refine tree_l rfl ?_
        go_wp2_with (go_at_call 20;go_must (refine(gnum_any _ qn 32 _ ((hQd.ext hu2).ext haX) hFq (by omega)).mono ?_);rintro e u4 ⟨A24,l24,c24,rfl,hR4,hu4⟩;have hx4:=Upd.trans haE hu4)
        refine⟨_,fun _ h=>h,⟨⟨_,hx4⟩,rfl⟩,?_⟩
        repeat (refine tree_q rfl (fun K hK=>?_);go_simp;refine hK _ ?_;clear hK K)
        refine tree_l rfl ?_
        go_wp2_with (go_at_call 13;go_must (refine(new_any x _ hx64).mono ?_);rintro e u6 ⟨A26,l26,c26,rfl,hV6,hu6⟩;have hx6:=Upd.trans hx4 hu6)
        refine⟨_,fun _ h=>h,⟨⟨_,hx6⟩,rfl⟩,?_⟩
        repeat (refine tree_q rfl (fun K hK=>?_);go_simp;refine hK _ ?_;clear hK K)
        refine tree_l rfl ?_
        go_wp2_with (go_at_call 20;go_must (refine(gnum_any _ x 32 _ hV6 hFx (by omega)).mono ?_);rintro e u7 ⟨A27,l27,c27,rfl,hR7,hu7⟩;have hx7:=Upd.trans hx6 hu7)
        refine⟨_,fun _ h=>h,⟨⟨_,hx7⟩,rfl⟩,?_⟩
        repeat (refine tree_q rfl (fun K hK=>?_);go_simp;refine hK _ ?_;clear hK K)
        refine tree_l rfl ?_
        go_wp2_with (go_at_call 19;go_must (refine(rprove_any _ _ P Q G H _ _ _ pn qn x A n c side (((((hRd.ext hu2).ext haX).ext hu4).ext hu6).ext hu7) ((((hR2.ext haX).ext hu4).ext hu6).ext hu7) ((hR4.ext hu6).ext hu7) hR7 (((((hMd.ext hu2).ext haX).ext hu4).ext hu6).ext hu7) Hmp.out Hmq.out hP2 hQ64 hPb hQb (by omega) hxQ).mono ?_);rw[←HN.out,←Hprf.out,←Hy.out,←Hz.out];rintro e u9 ⟨vc,AR,cR,rfl,hC9,hP9,hu9⟩;obtain⟨F0,p0,s0,F1,p1,s1,F2,p2,s2,F3,p3,s3,rfl,r0,r1,r2,r3⟩:=hC9;have hx9:=Upd.trans hx7 hu9)
        refine⟨_,fun _ h=>h,⟨⟨_,hx9⟩,rfl⟩,?_⟩
        repeat (refine tree_q rfl (fun K hK=>?_);go_simp;refine hK _ ?_;clear hK K)
        have y0:=((((haB.ext hu4).ext hu6).ext hu7).ext hu9).at 0 rfl
        have x0:=((((haB.ext hu4).ext hu6).ext hu7).ext hu9).frozen 0
        have y1:=((((haB.ext hu4).ext hu6).ext hu7).ext hu9).at 1 rfl
        have x1:=((((haB.ext hu4).ext hu6).ext hu7).ext hu9).frozen 1
        have y2:=((((haB.ext hu4).ext hu6).ext hu7).ext hu9).at 2 rfl
        have x2:=((((haB.ext hu4).ext hu6).ext hu7).ext hu9).frozen 2
        have y3:=((((haB.ext hu4).ext hu6).ext hu7).ext hu9).at 3 rfl
        have x3:=((((haB.ext hu4).ext hu6).ext hu7).ext hu9).frozen 3
        have hB4:=blk4 ((((haB.ext hu4).ext hu6).ext hu7).ext hu9) (.slice F0 p0 s0) (.slice F1 p1 s1) (.slice F2 p2 s2) (.slice F3 p3 s3)
        have hE4:=ext4 hx9 haG (.slice F0 p0 s0) (.slice F1 p1 s1) (.slice F2 p2 s2) (.slice F3 p3 s3)
        refine tree_l rfl ?_
        go_wp2_with fail
        refine⟨_,fun _ h=>h,⟨⟨_,hE4⟩,rfl⟩,?_⟩
        repeat (refine tree_q rfl (fun K hK=>?_);go_simp;refine hK _ ?_;clear hK K)
        refine tree_done ?_
        try simp only[List.drop_succ_cons,List.drop_zero]
        go_wp2_with fail
        go_meet
        exact⟨_,F0,p0,s0,F1,p1,s1,F2,p2,s2,F3,p3,s3,AR,cR,rfl,rfl,hB4,(ref4 (b0:=F0) (m0:=p0) (d0:=s0) (b1:=F1) (m1:=p1) (d1:=s1) (b2:=F2) (m2:=p2) (d2:=s2) (b3:=F3) (m3:=p3) (d3:=s3) r0 ((((haB.ext hu4).ext hu6).ext hu7).ext hu9)),(ref4 (b0:=F0) (m0:=p0) (d0:=s0) (b1:=F1) (m1:=p1) (d1:=s1) (b2:=F2) (m2:=p2) (d2:=s2) (b3:=F3) (m3:=p3) (d3:=s3) r1 ((((haB.ext hu4).ext hu6).ext hu7).ext hu9)),(ref4 (b0:=F0) (m0:=p0) (d0:=s0) (b1:=F1) (m1:=p1) (d1:=s1) (b2:=F2) (m2:=p2) (d2:=s2) (b3:=F3) (m3:=p3) (d3:=s3) r2 ((((haB.ext hu4).ext hu6).ext hu7).ext hu9)),(ref4 (b0:=F0) (m0:=p0) (d0:=s0) (b1:=F1) (m1:=p1) (d1:=s1) (b2:=F2) (m2:=p2) (d2:=s2) (b3:=F3) (m3:=p3) (d3:=s3) r3 ((((haB.ext hu4).ext hu6).ext hu7).ext hu9)),⟨(sl4 (b0:=F0) (m0:=p0) (d0:=s0) (b1:=F1) (m1:=p1) (d1:=s1) (b2:=F2) (m2:=p2) (d2:=s2) (b3:=F3) (m3:=p3) (d3:=s3) hP9.1 ((((haB.ext hu4).ext hu6).ext hu7).ext hu9)),hP9.2⟩,hZd.trans hE4⟩
    · skip
      go_wp2_with fail
      have haE:=Upd.alloc h0E (.cells #[.slice none 0 0,.slice none 0 0,.slice none 0 0,.slice none 0 0] 48)
      have haB:Blk (World.alloc Z.drew (.cells #[.slice none 0 0,.slice none 0 0,.slice none 0 0,.slice none 0 0] 48)) Z.heap.size 48 #[.slice none 0 0,.slice none 0 0,.slice none 0 0,.slice none 0 0]:=Blk.new Z.drew 48 #[.slice none 0 0,.slice none 0 0,.slice none 0 0,.slice none 0 0]
      have haG:Z.drew.heap.size≤Z.heap.size:=Nat.le_refl _
      have haX:Ext Z.drew (World.alloc Z.drew (.cells #[.slice none 0 0,.slice none 0 0,.slice none 0 0,.slice none 0 0] 48)):=(Upd.refl _ _).alloc _
      refine⟨_,fun _ h=>h,⟨⟨_,haE⟩,rfl⟩,?_⟩
      repeat (refine tree_q rfl (fun K hK=>?_);go_simp;refine hK _ ?_;clear hK K)
      refine tree_l rfl ?_
      go_wp2_with (go_at_call 20;go_must (refine(gnum_any _ pn 32 _ (hPd.ext haX) hFp (by omega)).mono ?_);rintro e u2 ⟨A22,l22,c22,rfl,hR2,hu2⟩;have hx2:=Upd.trans haE hu2)
      refine⟨_,fun _ h=>h,⟨⟨_,hx2⟩,rfl⟩,?_⟩
      repeat (refine tree_q rfl (fun K hK=>?_);go_simp;refine hK _ ?_;clear hK K)
      refine tree_l rfl ?_
      go_wp2_with (go_at_call 20;go_must (refine(gnum_any _ qn 32 _ ((hQd.ext haX).ext hu2) hFq (by omega)).mono ?_);rintro e u4 ⟨A24,l24,c24,rfl,hR4,hu4⟩;have hx4:=Upd.trans hx2 hu4)
      refine⟨_,fun _ h=>h,⟨⟨_,hx4⟩,rfl⟩,?_⟩
      repeat (refine tree_q rfl (fun K hK=>?_);go_simp;refine hK _ ?_;clear hK K)
      refine tree_l rfl ?_
      go_wp2_with (go_at_call 13;go_must (refine(new_any x _ hx64).mono ?_);rintro e u6 ⟨A26,l26,c26,rfl,hV6,hu6⟩;have hx6:=Upd.trans hx4 hu6)
      refine⟨_,fun _ h=>h,⟨⟨_,hx6⟩,rfl⟩,?_⟩
      repeat (refine tree_q rfl (fun K hK=>?_);go_simp;refine hK _ ?_;clear hK K)
      refine tree_l rfl ?_
      go_wp2_with (go_at_call 20;go_must (refine(gnum_any _ x 32 _ hV6 hFx (by omega)).mono ?_);rintro e u7 ⟨A27,l27,c27,rfl,hR7,hu7⟩;have hx7:=Upd.trans hx6 hu7)
      refine⟨_,fun _ h=>h,⟨⟨_,hx7⟩,rfl⟩,?_⟩
      repeat (refine tree_q rfl (fun K hK=>?_);go_simp;refine hK _ ?_;clear hK K)
      refine tree_l rfl ?_
      go_wp2_with (go_at_call 19;go_must (refine(rprove_any _ _ P Q G H _ _ _ pn qn x A n c side (((((hRd.ext haX).ext hu2).ext hu4).ext hu6).ext hu7) (((hR2.ext hu4).ext hu6).ext hu7) ((hR4.ext hu6).ext hu7) hR7 (((((hMd.ext haX).ext hu2).ext hu4).ext hu6).ext hu7) Hmp.out Hmq.out hP2 hQ64 hPb hQb (by omega) hxQ).mono ?_);rw[←HN.out,←Hprf.out,←Hy.out,←Hz.out];rintro e u9 ⟨vc,AR,cR,rfl,hC9,hP9,hu9⟩;obtain⟨F0,p0,s0,F1,p1,s1,F2,p2,s2,F3,p3,s3,rfl,r0,r1,r2,r3⟩:=hC9;have hx9:=Upd.trans hx7 hu9)
      refine⟨_,fun _ h=>h,⟨⟨_,hx9⟩,rfl⟩,?_⟩
      repeat (refine tree_q rfl (fun K hK=>?_);go_simp;refine hK _ ?_;clear hK K)
      have y0:=(((((haB.ext hu2).ext hu4).ext hu6).ext hu7).ext hu9).at 0 rfl
      have x0:=(((((haB.ext hu2).ext hu4).ext hu6).ext hu7).ext hu9).frozen 0
      have y1:=(((((haB.ext hu2).ext hu4).ext hu6).ext hu7).ext hu9).at 1 rfl
      have x1:=(((((haB.ext hu2).ext hu4).ext hu6).ext hu7).ext hu9).frozen 1
      have y2:=(((((haB.ext hu2).ext hu4).ext hu6).ext hu7).ext hu9).at 2 rfl
      have x2:=(((((haB.ext hu2).ext hu4).ext hu6).ext hu7).ext hu9).frozen 2
      have y3:=(((((haB.ext hu2).ext hu4).ext hu6).ext hu7).ext hu9).at 3 rfl
      have x3:=(((((haB.ext hu2).ext hu4).ext hu6).ext hu7).ext hu9).frozen 3
      have hB4:=blk4 (((((haB.ext hu2).ext hu4).ext hu6).ext hu7).ext hu9) (.slice F0 p0 s0) (.slice F1 p1 s1) (.slice F2 p2 s2) (.slice F3 p3 s3)
      have hE4:=ext4 hx9 haG (.slice F0 p0 s0) (.slice F1 p1 s1) (.slice F2 p2 s2) (.slice F3 p3 s3)
      refine tree_l rfl ?_
      go_wp2_with fail
      refine⟨_,fun _ h=>h,⟨⟨_,hE4⟩,rfl⟩,?_⟩
      repeat (refine tree_q rfl (fun K hK=>?_);go_simp;refine hK _ ?_;clear hK K)
      refine tree_done ?_
      try simp only[List.drop_succ_cons,List.drop_zero]
      go_wp2_with fail
      go_meet
      exact⟨_,F0,p0,s0,F1,p1,s1,F2,p2,s2,F3,p3,s3,AR,cR,rfl,rfl,hB4,(ref4 (b0:=F0) (m0:=p0) (d0:=s0) (b1:=F1) (m1:=p1) (d1:=s1) (b2:=F2) (m2:=p2) (d2:=s2) (b3:=F3) (m3:=p3) (d3:=s3) r0 (((((haB.ext hu2).ext hu4).ext hu6).ext hu7).ext hu9)),(ref4 (b0:=F0) (m0:=p0) (d0:=s0) (b1:=F1) (m1:=p1) (d1:=s1) (b2:=F2) (m2:=p2) (d2:=s2) (b3:=F3) (m3:=p3) (d3:=s3) r1 (((((haB.ext hu2).ext hu4).ext hu6).ext hu7).ext hu9)),(ref4 (b0:=F0) (m0:=p0) (d0:=s0) (b1:=F1) (m1:=p1) (d1:=s1) (b2:=F2) (m2:=p2) (d2:=s2) (b3:=F3) (m3:=p3) (d3:=s3) r2 (((((haB.ext hu2).ext hu4).ext hu6).ext hu7).ext hu9)),(ref4 (b0:=F0) (m0:=p0) (d0:=s0) (b1:=F1) (m1:=p1) (d1:=s1) (b2:=F2) (m2:=p2) (d2:=s2) (b3:=F3) (m3:=p3) (d3:=s3) r3 (((((haB.ext hu2).ext hu4).ext hu6).ext hu7).ext hu9)),⟨(sl4 (b0:=F0) (m0:=p0) (d0:=s0) (b1:=F1) (m1:=p1) (d1:=s1) (b2:=F2) (m2:=p2) (d2:=s2) (b3:=F3) (m3:=p3) (d3:=s3) hP9.1 (((((haB.ext hu2).ext hu4).ext hu6).ext hu7).ext hu9)),hP9.2⟩,hZd.trans hE4⟩
   case rest=>
    obtain⟨g23,F0,p0,s0,F1,p1,s1,F2,p2,s2,F3,p3,s3,AR,cR,rfl,rfl,b23,hC0,hC1,hC2,hC3,hPR,hZV⟩:=hcut
    have b17v:=b17z.ext hZV
    have hV0:=hZ0.ext hZV
    have hV1:=hZ1.ext hZV
    have hV2:=hZ2.ext hZV
    have hV3:=hZ3.ext hZV
    have hPTv:=hPTz.ext hZV
    have hk1:=run_str (P:=Tryz.prog) (c:=cP) Tryz.under_bs Tryz.under8 Tryz.underS hPTv.1 hPTv.2.1
    have hk2:=run_str (P:=Tryz.prog) (c:=cR) Tryz.under_bs Tryz.under8 Tryz.underS hPR.1 hPR.2.1
    obtain⟨ST,hST⟩:∃ST,ST=str prf:=⟨_,rfl⟩
    rw[←hST]at hk1 hk2
    have y2:=b17v.at 2 rfl
    have x2:=b23.at 2 rfl
    have hEV:=hEZ.trans hZV
    have b15v:=b15z.ext hZV
    have b16v:=b16z.ext hZV
    have hPv:=hPz.ext hZV
    have hQv:=hQz.ext hZV
    clear hST b15z b16z hPz hQz hRZ hEZ b17z hZ0 hZ1 hZ2 hZ3 hPTz b14z
    go_wp2_with fail
    clear hk1 hk2 y2 x2
    refine(lsame_any _ _ y y 32 _ hV2 hC2 hFy hFy (by omega)).mono ?_
    rw[decide_eq_true rfl]
    rintro e t1 ⟨rfl,ht1⟩
    have y3:=(b17v.ext ht1).at 3 rfl
    have x3:=(b23.ext ht1).at 3 rfl
    go_wp2_with fail
    clear y3 x3
    refine(lsame_any _ _ z z 32 _ (hV3.ext ht1) (hC3.ext ht1) hFz hFz (by omega)).mono ?_
    rw[decide_eq_true rfl]
    rintro e t2 ⟨rfl,ht2⟩
    have hw2:=ht1.trans ht2
    have y0:=(b17v.ext hw2).at 0 rfl
    have q15:=(b15v.ext hw2).cell
    go_wp2_with fail
    clear y0 q15
    refine(cmp_any _ _ pn pn 32 _ (hV0.ext hw2) (hPv.ext hw2) hFp hFp (by omega)).mono ?_
    rw[cmpI_self]
    rintro e t3 ⟨rfl,ht3⟩
    have hw3:=hw2.trans ht3
    have y1:=(b17v.ext hw3).at 1 rfl
    have q16:=(b16v.ext hw3).cell
    go_wp2_with fail
    clear y1 q16
    refine(cmp_any _ _ qn qn 32 _ (hV1.ext hw3) (hQv.ext hw3) hFq hFq (by omega)).mono ?_
    rw[cmpI_self]
    rintro e t4 ⟨rfl,ht4⟩
    have hG9:=(hEV.trans hw3).trans ht4
    go_wp2_with fail
    go_ret
    exact⟨rfl,hG9⟩
theorem dprvs_any (z0:Int) (a b x:Nat) (raw:Bool) (A:Option Addr) (n c:Nat) (side:List (BitVec 8)) (w:World) (ha64:a<18446744073709551616) (hb64:b<18446744073709551616) (hx64:x<18446744073709551616) (hM:Pt.ok w ⟨A,n,c,side⟩):
 Calls Tryz.prog 3 #[.int .i64 z0,.int .u64 (a:Nat),.int .u64 (b:Nat),.int .u64 (x:Nat),.bool raw,.slice A n c] w fun e w'=>e=.returned (.bool true)∧Ext w w':=by
 by_cases hn:n≤300
 · obtain⟨r,hr,hnum⟩:=gnums_any z0
   cases hmp:memB (grP r) (grQ r) (if raw=true then a else grG r^a % grP r)with
   | false=>exact dprvs_no z0 r hr a b x raw A n c side w (fun w'=>hnum none 0 0 w') ha64 hb64 hx64 hM hn (fun h=>by rw[hmp]at h;cases h)
   | true=>
     by_cases hxQ:x<grQ r
     · exact dprvs_yes z0 r hr a b x raw A n c side w (fun w'=>hnum none 0 0 w') ha64 hb64 hx64 hM hn hmp hxQ
     · exact dprvs_no z0 r hr a b x raw A n c side w (fun w'=>hnum none 0 0 w') ha64 hb64 hx64 hM hn (fun _=>by omega)
 · exact dprvs_few z0 a b x raw A n c w (by omega)
end Go.Proofs.YtdohmikoafkniaaGreat
