/- LetterProofs, walked. -/
import Derived.Test.YtdohmikoafkniaaGreatLpLetG
import Derived.Test.YtdohmikoafkniaaGreatLpLetH
namespace Go.Proofs.YtdohmikoafkniaaGreat
set_option linter.unusedSimpArgs false
set_option linter.unusedVariables false
open Go.RowKit
open Nt Sha
attribute [local go_sem] steady steadyUpon Cls same_cell anyW
attribute [local irreducible] wpHead wpTree wpHeadR Sha.sum chalOf ansN str
def shwB (P Q G y o z:Nat) (s:Int) (prf:List (BitVec 8)):Bool:=inB s && dverB P Q G o y z (sideB s.toNat) prf
def powN (raw:Bool) (P G x:Nat):Nat:=if raw=true then x else G^x % P
theorem powN_fit {raw:Bool} {P G x:Nat} (hx:x<18446744073709551616) (hP:Fit 32 P) (hP2:2≤P):Fit 32 (powN raw P G x):=by
 unfold powN
 split
 · exact(fit2 hx).mono (by omega)
 · exact hP.le (Nat.le_of_lt (Nat.mod_lt _ (by omega)))
theorem inB_nat {s:Int} (h:inB s=true):∃q:Nat,s=(q:Int)∧q≤1048576:=by
 unfold inB at h
 simp only[decide_eq_true_eq]at h
 exact⟨s.toNat,by omega,by omega⟩
section
variable (gr P Q G H : Nat) (w : World)
theorem lshown_all (A0 A1 A2 D:Option Addr) (l0 c0 l1 c1 l2 c2 m d y o z:Nat) (s:Int) (prf:List (BitVec 8)) (h:GrpV w gr P Q G H) (h0:NatV w (.agg #[.slice A0 l0 c0]) y) (h1:NatV w (.agg #[.slice A1 l1 c1]) o) (h2:NatV w (.agg #[.slice A2 l2 c2]) z) (hS:Pt.ok w ⟨D,m,d,prf⟩) (hFy:Fit 32 y) (hFo:Fit 32 o) (hFz:Fit 32 z) (hGf:Fit 32 G) (hP:Fit 32 P) (hQ:Fit 32 Q) (hP2:2≤P) (hQ64:64<Q) (hz128:byteSz Q≤128) (hm:m≤1000):
 Calls Tryz.prog 42 #[.pointer (some ⟨gr,0,none⟩),.agg #[.slice A0 l0 c0],.agg #[.slice A1 l1 c1],.agg #[.slice A2 l2 c2],.int .i64 s,.slice D m d] w fun e w'=>e=.returned (.bool (shwB P Q G y o z s prf))∧Ext w w':=by
 unfold shwB
 cases hi:inB s with
 | false=>exact lshown_in gr w A0 A1 A2 D l0 c0 l1 c1 l2 c2 m d s hi
 | true=>
   obtain⟨q,rfl,hq⟩:=inB_nat hi
   rw[Bool.true_and,Int.toNat_natCast]
   exact lshown_any gr P Q G H w A0 A1 A2 D l0 c0 l1 c1 l2 c2 m d y o z q prf h h0 h1 h2 hS hFy hFo hFz hGf hP hQ hP2 hQ64 hz128 hq hm
theorem lrshown_all (vg vy vo vz:Value) (y o z:Nat) (s:Int) (D:Option Addr) (m d:Nat) (prf:List (BitVec 8)) (h:RGrpV w vg P Q G H) (hVy:RefV w vy y) (hVo:RefV w vo o) (hVz:RefV w vz z) (hS:Pt.ok w ⟨D,m,d,prf⟩) (hP2:2≤P) (hQ64:64<Q) (hFP:blen P≤1024) (hFQ:blen Q≤1024) (hFG:blen G≤1024) (hFy:blen y≤1024) (hFo:blen o≤1024) (hFz:blen z≤1024) (hz128:byteSz Q≤128):
 Calls Tryz.prog 43 #[vg,vy,vo,vz,.int .i64 s,.slice D m d] w fun e w'=>e=.returned (.bool (shwB P Q G y o z s prf))∧Ext w w':=by
 unfold shwB
 cases hi:inB s with
 | false=>exact lrshown_in P Q G H w vg vy vo vz y o z s D m d h hVy hVo hVz hi
 | true=>
   obtain⟨q,rfl,hq⟩:=inB_nat hi
   rw[Bool.true_and,Int.toNat_natCast]
   exact lrshown_any P Q G H w vg vy vo vz y o z q D m d prf h hVy hVo hVz hS hP2 hQ64 hFP hFQ hFG hFy hFo hFz hz128 hq
end
set_option maxRecDepth 100000 in
set_option maxHeartbeats 1000000 in
theorem lprfs_few (z a b c:Int) (raw:Bool) (s:Int) (A:Option Addr) (n d:Nat) (w:World) (h:100<n):
 Calls Tryz.prog 6 #[.int .i64 z,.int .u64 a,.int .u64 b,.int .u64 c,.bool raw,.int .i64 s,.slice A n d] w fun e w'=>e=.returned (.bool true)∧Ext w w':=by
 have n1I:(100:Int)<(n:Int):=by omega
 go_enter Tryz.func6,Tryz.ntmps6
 go_wp2_with fail
 refine(llives_any w).mono ?_
 rintro e w1 ⟨rfl,hU1⟩
 go_wp2_with fail
 refine(llives_any w1).mono ?_
 rintro e w2 ⟨rfl,hU2⟩
 have hE:=hU1.trans hU2
 go_wp2_with fail
 go_ret
 exact⟨rfl,hE⟩
set_option maxRecDepth 100000 in
set_option maxHeartbeats 8000000 in
theorem lprfs_good (z:Int) (r:Nat) (hr:r<3) (a b c:Nat) (raw:Bool) (s:Int) (A:Option Addr) (n d:Nat) (prf:List (BitVec 8)) (w:World) (hnum:∀w',Calls Tryz.prog 52 #[.int .i64 z,.slice none 0 0] w' (RetNums w' r none 0 0))
 (ha64:a<18446744073709551616) (hb64:b<18446744073709551616) (hc64:c<18446744073709551616) (hM:Pt.ok w ⟨A,n,d,prf⟩) (hn:n≤100):
 Calls Tryz.prog 6 #[.int .i64 z,.int .u64 (a:Nat),.int .u64 (b:Nat),.int .u64 (c:Nat),.bool raw,.int .i64 s,.slice A n d] w fun e w'=>e=.returned (.bool true)∧Ext w w':=by
 have Hnum:=hide hnum
 have hP:Fit 32 (grP r):=(fit_grP r).mono (by omega)
 have hQ:Fit 32 (grQ r):=(fit_grQ r).mono (by omega)
 have hGf:Fit 32 (grG r):=(fit_grG r).mono (by omega)
 have hHf:Fit 32 (grH r):=(fit_grH r).mono (by omega)
 have hgok:GOk (grP r) (grQ r) (grG r):=gok r hr
 have hz128:byteSz (grQ r)≤128:=szQ r
 obtain⟨P,hPe⟩:∃P,P=grP r:=⟨_,rfl⟩
 obtain⟨Q,hQe⟩:∃Q,Q=grQ r:=⟨_,rfl⟩
 obtain⟨G,hGe⟩:∃G,G=grG r:=⟨_,rfl⟩
 obtain⟨H,hHe⟩:∃H,H=grH r:=⟨_,rfl⟩
 rw[←hPe,←hQe,←hGe]at hgok
 rw[←hPe]at hP
 rw[←hQe]at hQ hz128
 rw[←hGe]at hGf
 rw[←hHe]at hHf
 have HPe:=hide hPe
 have HQe:=hide hQe
 have HGe:=hide hGe
 have HHe:=hide hHe
 have hP2:=hgok.two
 have hQ64:=hgok.sml
 have hPb:blen P≤1024:=Nat.le_trans hP.blen (by omega)
 have hQb:blen Q≤1024:=Nat.le_trans hQ.blen (by omega)
 have hGb:blen G≤1024:=Nat.le_trans hGf.blen (by omega)
 have hFa:Fit 32 (powN raw P G a):=powN_fit ha64 hP hP2
 have hFb:Fit 32 (powN raw P G b):=powN_fit hb64 hP hP2
 have hFc:Fit 32 (powN raw P G c):=powN_fit hc64 hP hP2
 have hf:∀{x:Nat},x<18446744073709551616→Fit 32 x:=fun h=>(fit2 h).mono (by omega)
 have hfa:=hf ha64
 have hfb:=hf hb64
 have hfc:=hf hc64
 have HM:=hide hM
 have n1I:¬(100:Int)<(n:Int):=by omega
 clear hnum hPe hQe hGe hHe hM hf
 go_enter Tryz.func6,Tryz.ntmps6
 go_wp2_with fail
 refine(llives_any w).mono ?_
 rintro e w1 ⟨rfl,hU1⟩
 go_wp2_with fail
 refine(ggroup_any z r hr w1 Hnum.out).mono ?_
 rintro e w2 ⟨gr,rfl,hG,hU2⟩
 rw[←HPe.out,←HQe.out,←HGe.out,←HHe.out]at hG
 have hE2:=hU1.trans hU2
 clear hU1 hU2
 go_wp2_with fail
 refine(new_any a _ ha64).mono ?_
 rintro e w3 ⟨A3,l3,c3,rfl,hV3,hU3⟩
 go_wp2_with fail
 refine(new_any b _ hb64).mono ?_
 rintro e w4 ⟨A4,l4,c4,rfl,hV4,hU4⟩
 go_wp2_with fail
 refine(new_any c _ hc64).mono ?_
 rintro e w5 ⟨A5,l5,c5,rfl,hV5,hU5⟩
 go_upto_if 38 with fail
 refine name_w (fun W hW=>?_)
 have h5W:Ext w5 W:=by rw[hW];exact(((Upd.refl _ _).alloc _).alloc _).alloc _
 have b16:Box W w5.heap.size 34 (.slice A3 l3 c3):=by rw[hW];exact((Box.new _ _ _).alloc _).alloc _
 have b17:Box W (w5.heap.size+1) 34 (.slice A4 l4 c4):=by rw[hW];exact(Box.new_at (by simp)).alloc _
 have b18:Box W (w5.heap.size+1+1) 34 (.slice A5 l5 c5):=by rw[hW];exact Box.new_at (by simp)
 have hUW:=((hU3.trans hU4).trans hU5).trans h5W
 have hV3w:=hV3.ext ((hU4.trans hU5).trans h5W)
 have hV4w:=hV4.ext (hU5.trans h5W)
 have hV5w:=hV5.ext h5W
 have hGW:=hG.ext hUW
 have hEW:=hE2.trans hUW
 have hs2:=hE2.size
 have hs5:=((hU3.trans hU4).trans hU5).size
 obtain⟨g,hg⟩:∃g,g=w5.heap.size:=⟨_,rfl⟩
 rw[←hg]at b16 b17 b18 hs5
 have Hg:=hide hg
 clear hW h5W hU3 hU4 hU5 hV3 hV4 hV5 hg
 rw[←Hg.out]
 go_cut [] (fun wx=>∃(AX AY AZ:Option Addr) (lX cX lY cY lZ cZ:Nat),Box wx g 34 (.slice AX lX cX)∧Box wx (g+1) 34 (.slice AY lY cY)∧Box wx (g+1+1) 34 (.slice AZ lZ cZ)∧NatV wx (.agg #[.slice AX lX cX]) (powN raw P G a)∧NatV wx (.agg #[.slice AY lY cY]) (powN raw P G b)∧NatV wx (.agg #[.slice AZ lZ cZ]) (powN raw P G c)∧GrpV wx gr P Q G H∧Ext w wx)
 case first=>
  cases raw with
  | true=>
    go_wp2_with fail
    go_meet
    exact⟨_,_,_,_,_,_,_,_,_,b16,b17,b18,hV3w,hV4w,hV5w,hGW,hEW⟩
  | false=>
    have hWd:Ext W W.drew:=(Upd.refl _ _).drew
    have q16:=fun y:Wd (Ext W.drew)=>y.ok.cellv b16.drew.cell
    have q17:=fun y:Wd (Ext W.drew)=>y.ok.cellv b17.drew.cell
    have q18:=fun y:Wd (Ext W.drew)=>y.ok.cellv b18.drew.cell
    go_wp2_with fail
    refine wp_region_plan (Ext _) 14 [(false,0),(false,1),(false,3),(false,5),(false,6),(false,8),(false,10),(false,11),(false,13),(true,2),(true,4),(true,7),(true,9),(true,12)] (by kernel_rfl) (by kernel_rfl) (Upd.refl _ _) (fun hne=>?_)
    repeat (refine head_q rfl (fun K hK=>?_);have hK2:=hide hK;clear hK;go_simp;refine hK2.out _ ?_;clear hK2 K)
    refine head_l rfl ?_
    go_wp2_with (go_at_call 24;go_must (refine(gG_any gr P Q G _ _ (hGW.ext hWd)).mono ?_);rintro e v1 ⟨B1,m1,d1,rfl,hX1,hv1⟩)
    refine⟨Cls (Ext _),fun _ h=>h,⟨⟨_,hv1⟩,rfl⟩,?_⟩
    repeat (refine head_q rfl (fun K hK=>?_);have hK2:=hide hK;clear hK;go_simp;refine hK2.out _ ?_;clear hK2 K)
    refine head_l rfl ?_
    go_wp2_with (go_at_call 23;go_must (refine(gExp_any gr P Q G _ 32 _ _ _ G a 32 (hGW.ext (hWd.trans hv1)) hX1 (hV3w.ext (hWd.trans hv1)) hGf hP hfa (by omega) (by omega)).mono ?_);rintro e v2 ⟨B2,m2,d2,rfl,hX2,hv2⟩;replace hv2:=hv1.trans hv2)
    refine⟨Cls (Ext _),fun _ h=>h,⟨⟨_,hv2⟩,rfl⟩,?_⟩
    repeat (refine head_q rfl (fun K hK=>?_);have hK2:=hide hK;clear hK;go_simp;refine hK2.out _ ?_;clear hK2 K)
    refine head_l rfl ?_
    go_wp2_with (go_at_call 24;go_must (refine(gG_any gr P Q G _ _ (hGW.ext (hWd.trans hv2))).mono ?_);rintro e v3 ⟨B3,m3,d3,rfl,hX3,hv3⟩;replace hX2:=hX2.ext hv3;replace hv3:=hv2.trans hv3)
    refine⟨Cls (Ext _),fun _ h=>h,⟨⟨_,hv3⟩,rfl⟩,?_⟩
    repeat (refine head_q rfl (fun K hK=>?_);have hK2:=hide hK;clear hK;go_simp;refine hK2.out _ ?_;clear hK2 K)
    refine head_l rfl ?_
    go_wp2_with (go_at_call 23;go_must (refine(gExp_any gr P Q G _ 32 _ _ _ G b 32 (hGW.ext (hWd.trans hv3)) hX3 (hV4w.ext (hWd.trans hv3)) hGf hP hfb (by omega) (by omega)).mono ?_);rintro e v4 ⟨B4,m4,d4,rfl,hX4,hv4⟩;replace hX2:=hX2.ext hv4;replace hv4:=hv3.trans hv4)
    refine⟨Cls (Ext _),fun _ h=>h,⟨⟨_,hv4⟩,rfl⟩,?_⟩
    repeat (refine head_q rfl (fun K hK=>?_);have hK2:=hide hK;clear hK;go_simp;refine hK2.out _ ?_;clear hK2 K)
    refine head_l rfl ?_
    go_wp2_with (go_at_call 24;go_must (refine(gG_any gr P Q G _ _ (hGW.ext (hWd.trans hv4))).mono ?_);rintro e v5 ⟨B5,m5,d5,rfl,hX5,hv5⟩;replace hX2:=hX2.ext hv5;replace hX4:=hX4.ext hv5;replace hv5:=hv4.trans hv5)
    refine⟨Cls (Ext _),fun _ h=>h,⟨⟨_,hv5⟩,rfl⟩,?_⟩
    repeat (refine head_q rfl (fun K hK=>?_);have hK2:=hide hK;clear hK;go_simp;refine hK2.out _ ?_;clear hK2 K)
    clear q16 q17 q18
    refine head_nil ?_
    try simp only[List.drop_succ_cons,List.drop_zero]
    go_wp2_with fail
    refine(gExp_any gr P Q G _ 32 _ _ _ G c 32 (hGW.ext (hWd.trans hv5)) hX5 (hV5w.ext (hWd.trans hv5)) hGf hP hfc (by omega) (by omega)).mono ?_
    rintro e v6 ⟨B6,m6,d6,rfl,hX6,hv6⟩
    replace hX2:=hX2.ext hv6
    replace hX4:=hX4.ext hv6
    replace hv6:=hv5.trans hv6
    have hX:=hWd.trans hv6
    have k16:=b16.ext hX
    have k17:=b17.ext hX
    have k18:=b18.ext hX
    have k16n:=k16.set (.slice B2 m2 d2)
    have k17a:=k17.far (p:=⟨g,0,none⟩) (by simp;try omega) (.slice B2 m2 d2)
    have k18a:=k18.far (p:=⟨g,0,none⟩) (by simp;try omega) (.slice B2 m2 d2)
    have k16b:=k16n.far (p:=⟨g+1,0,none⟩) (by simp;try omega) (.slice B4 m4 d4)
    have k17n:=k17a.set (.slice B4 m4 d4)
    have k18b:=k18a.far (p:=⟨g+1,0,none⟩) (by simp;try omega) (.slice B4 m4 d4)
    have k16c:=k16b.far (p:=⟨g+1+1,0,none⟩) (by simp;try omega) (.slice B6 m6 d6)
    have k17c:=k17n.far (p:=⟨g+1+1,0,none⟩) (by simp;try omega) (.slice B6 m6 d6)
    have k18n:=k18b.set (.slice B6 m6 d6)
    have n2:=((hX2.far (v:=.slice B2 m2 d2) k16.cell).far (v:=.slice B4 m4 d4) k17a.cell).far (v:=.slice B6 m6 d6) k18b.cell
    have n4:=((hX4.far (v:=.slice B2 m2 d2) k16.cell).far (v:=.slice B4 m4 d4) k17a.cell).far (v:=.slice B6 m6 d6) k18b.cell
    have n6:=((hX6.far (v:=.slice B2 m2 d2) k16.cell).far (v:=.slice B4 m4 d4) k17a.cell).far (v:=.slice B6 m6 d6) k18b.cell
    have hEn:=(((hEW.trans hX).setCell (p:=⟨g,0,none⟩) (.inr (show w.heap.size≤g by omega)) (.slice B2 m2 d2)).setCell (p:=⟨g+1,0,none⟩) (.inr (show w.heap.size≤g+1 by omega)) (.slice B4 m4 d4)).setCell (p:=⟨g+1+1,0,none⟩) (.inr (show w.heap.size≤g+1+1 by omega)) (.slice B6 m6 d6)
    have hGn:=hG.ext ((((hUW.trans hX).setCell (p:=⟨g,0,none⟩) (.inr (show w2.heap.size≤g by omega)) (.slice B2 m2 d2)).setCell (p:=⟨g+1,0,none⟩) (.inr (show w2.heap.size≤g+1 by omega)) (.slice B4 m4 d4)).setCell (p:=⟨g+1+1,0,none⟩) (.inr (show w2.heap.size≤g+1+1 by omega)) (.slice B6 m6 d6))
    have z1:=k16.cell
    have z2:=k16.frozen
    have z3:=k17a.cell
    have z4:=k17a.frozen
    have z5:=k18b.cell
    have z6:=k18b.frozen
    go_wp2_with fail
    go_meet
    exact⟨_,_,_,_,_,_,_,_,_,k16c,k17c,k18n,n2,n4,n6,hGn,hEn⟩
 case rest=>
  obtain⟨AX,AY,AZ,lX,cX,lY,cY,lZ,cZ,k16,k17,k18,n2,n4,n6,hGV,hEV⟩:=hcut
  clear b16 b17 b18 hV3w hV4w hV5w hGW hEW hUW hG hE2 hfa hfb hfc
  obtain⟨an,han⟩:∃x,x=powN raw P G a:=⟨_,rfl⟩
  obtain⟨bn,hbn⟩:∃x,x=powN raw P G b:=⟨_,rfl⟩
  obtain⟨cn,hcn⟩:∃x,x=powN raw P G c:=⟨_,rfl⟩
  rw[←han]at n2 hFa
  rw[←hbn]at n4 hFb
  rw[←hcn]at n6 hFc
  clear han hbn hcn
  have hab:blen an≤1024:=Nat.le_trans hFa.blen (by omega)
  have hbb:blen bn≤1024:=Nat.le_trans hFb.blen (by omega)
  have hcb:blen cn≤1024:=Nat.le_trans hFc.blen (by omega)
  obtain⟨t,ht⟩:∃t,t=shwB P Q G an bn cn s prf:=⟨_,rfl⟩
  have Ht:=hide ht
  clear ht
  go_wp2_with fail
  refine name_w (fun V hV=>?_)
  subst hV
  have hVd:Ext V V.drew:=(Upd.refl _ _).drew
  have hED:=hEV.trans hVd
  have q16:=fun y:Wd (Ext V.drew)=>y.ok.cellv k16.drew.cell
  have q17:=fun y:Wd (Ext V.drew)=>y.ok.cellv k17.drew.cell
  have q18:=fun y:Wd (Ext V.drew)=>y.ok.cellv k18.drew.cell
  refine wp_region_plan (Ext _) 28 [(false,0),(false,1),(false,2),(false,3),(false,4),(false,5),(false,7),(false,9),(false,11),(false,13),(false,15),(false,16),(true,6),(true,8),(true,10),(true,12),(true,14),(true,17),(false,18),(false,19),(false,20),(false,21),(false,22),(false,23),(false,24),(true,25),(false,26),(false,27)] (by kernel_rfl) (by kernel_rfl) (Upd.refl _ _) (fun hne=>?_)
  repeat (refine head_q rfl (fun K hK=>?_);have hK2:=hide hK;clear hK;go_simp;refine hK2.out _ ?_;clear hK2 K)
  refine head_l rfl ?_
  go_wp2_with (go_at_call 42;go_must (refine(lshown_all gr P Q G H _ AX AY AZ A lX cX lY cY lZ cZ n d an bn cn s prf (hGV.ext hVd) (n2.ext hVd) (n4.ext hVd) (n6.ext hVd) (HM.out.ext hED) hFa hFb hFc hGf hP hQ hP2 hQ64 hz128 (by omega)).mono ?_);rw[←Ht.out];rintro e v1 ⟨rfl,hv1⟩)
  refine⟨Cls (Ext _),fun _ h=>h,⟨⟨_,hv1⟩,rfl⟩,?_⟩
  repeat (refine head_q rfl (fun K hK=>?_);have hK2:=hide hK;clear hK;go_simp;refine hK2.out _ ?_;clear hK2 K)
  refine head_l rfl ?_
  go_wp2_with (go_at_call 10;go_must (refine(gref_any gr P Q G H 32 _ (hGV.ext (hVd.trans hv1)) hP hQ hGf hHf (by omega)).mono ?_);rintro e v2 ⟨vg,rfl,hR,hv2⟩;replace hv2:=hv1.trans hv2)
  refine⟨Cls (Ext _),fun _ h=>h,⟨⟨_,hv2⟩,rfl⟩,?_⟩
  repeat (refine head_q rfl (fun K hK=>?_);have hK2:=hide hK;clear hK;go_simp;refine hK2.out _ ?_;clear hK2 K)
  refine head_l rfl ?_
  go_wp2_with (go_at_call 20;go_must (refine(gnum_any _ an 32 _ (n2.ext (hVd.trans hv2)) hFa (by omega)).mono ?_);rintro e v3 ⟨B1,m1,d1,rfl,hR1,hv3⟩;replace hR:=hR.ext hv3;replace hv3:=hv2.trans hv3)
  refine⟨Cls (Ext _),fun _ h=>h,⟨⟨_,hv3⟩,rfl⟩,?_⟩
  repeat (refine head_q rfl (fun K hK=>?_);have hK2:=hide hK;clear hK;go_simp;refine hK2.out _ ?_;clear hK2 K)
  refine head_l rfl ?_
  go_wp2_with (go_at_call 20;go_must (refine(gnum_any _ bn 32 _ (n4.ext (hVd.trans hv3)) hFb (by omega)).mono ?_);rintro e v4 ⟨B2,m2,d2,rfl,hR2,hv4⟩;replace hR:=hR.ext hv4;replace hR1:=hR1.ext hv4;replace hv4:=hv3.trans hv4)
  refine⟨Cls (Ext _),fun _ h=>h,⟨⟨_,hv4⟩,rfl⟩,?_⟩
  repeat (refine head_q rfl (fun K hK=>?_);have hK2:=hide hK;clear hK;go_simp;refine hK2.out _ ?_;clear hK2 K)
  refine head_l rfl ?_
  go_wp2_with (go_at_call 20;go_must (refine(gnum_any _ cn 32 _ (n6.ext (hVd.trans hv4)) hFc (by omega)).mono ?_);rintro e v5 ⟨B3,m3,d3,rfl,hR3,hv5⟩;replace hR:=hR.ext hv5;replace hR1:=hR1.ext hv5;replace hR2:=hR2.ext hv5;replace hv5:=hv4.trans hv5)
  refine⟨Cls (Ext _),fun _ h=>h,⟨⟨_,hv5⟩,rfl⟩,?_⟩
  repeat (refine head_q rfl (fun K hK=>?_);have hK2:=hide hK;clear hK;go_simp;refine hK2.out _ ?_;clear hK2 K)
  refine head_l rfl ?_
  go_wp2_with (go_at_call 43;go_must (refine(lrshown_all P Q G H _ vg _ _ _ an bn cn s A n d prf hR hR1 hR2 hR3 (HM.out.ext (hED.trans hv5)) hP2 hQ64 hPb hQb hGb hab hbb hcb hz128).mono ?_);rw[←Ht.out];rintro e v6 ⟨rfl,hv6⟩;replace hv6:=hv5.trans hv6)
  refine⟨Cls (Ext _),fun _ h=>h,⟨⟨_,hv6⟩,rfl⟩,?_⟩
  repeat (refine head_q rfl (fun K hK=>?_);have hK2:=hide hK;clear hK;go_simp;refine hK2.out _ ?_;clear hK2 K)
  refine head_l rfl ?_
  go_wp2_with (go_at_call 42;go_must (refine(lshown_nil _ AX AY AZ A lX cX lY cY lZ cZ n d s).mono ?_);rintro e v7 ⟨rfl,hv7⟩;replace hv7:=hv6.trans hv7)
  refine⟨Cls (Ext _),fun _ h=>h,⟨⟨_,hv7⟩,rfl⟩,?_⟩
  repeat (refine head_q rfl (fun K hK=>?_);have hK2:=hide hK;clear hK;go_simp;refine hK2.out _ ?_;clear hK2 K)
  refine head_nil ?_
  try simp only[List.drop_succ_cons,List.drop_zero]
  have hEf:=hED.trans hv7
  clear q16 q17 q18
  go_wp2_with fail
  go_ret
  exact⟨rfl,hEf⟩
theorem lprfs_any (z:Int) (a b c:Nat) (raw:Bool) (s:Int) (A:Option Addr) (n d:Nat) (prf:List (BitVec 8)) (w:World) (ha64:a<18446744073709551616) (hb64:b<18446744073709551616) (hc64:c<18446744073709551616) (hM:Pt.ok w ⟨A,n,d,prf⟩):
 Calls Tryz.prog 6 #[.int .i64 z,.int .u64 (a:Nat),.int .u64 (b:Nat),.int .u64 (c:Nat),.bool raw,.int .i64 s,.slice A n d] w fun e w'=>e=.returned (.bool true)∧Ext w w':=by
 by_cases hn:n≤100
 · obtain⟨r,hr,hnum⟩:=gnums_any z
   exact lprfs_good z r hr a b c raw s A n d prf w (fun w'=>hnum none 0 0 w') ha64 hb64 hc64 hM hn
 · exact lprfs_few z a b c raw s A n d w (by omega)
end Go.Proofs.YtdohmikoafkniaaGreat
