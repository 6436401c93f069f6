/- Signatures, walked: Sign. -/
import Derived.Test.YtbhhjfhepkbfgaaGreatWsSgnB
import Derived.Test.YtbhhjfhepkbfgaaGreatWsFreeN
namespace Go.Proofs.YtbhhjfhepkbfgaaGreat
set_option linter.unusedSimpArgs false
set_option linter.unusedVariables false
open Go.RowKit
open Nt Sha
attribute [local go_sem] steady steadyUpon Cls same_cell
attribute [local irreducible] wpHead wpTree sum chalOf
def drawN (Q x:Nat) (msg:List (BitVec 8)):Nat:=ofB (Mac.expand (toB x (byteSz Q)) msg 64) % Q
def nz1 (d:Nat):Nat:=if d=0 then 1 else d
def sgnK (Q x:Nat) (msg:List (BitVec 8)):Nat:=nz1 (drawN Q x msg)
def sgnC (P Q G x:Nat) (msg:List (BitVec 8)):Nat:=chalOf [sgnB,memBy P Q (G^sgnK Q x msg % P),memBy P Q (G^x % P),msg] Q
def sgnS (P Q G x:Nat) (msg:List (BitVec 8)):Nat:=(sgnK Q x msg+sgnC P Q G x msg*x % Q) % Q
def signB (P Q G x:Nat) (msg:List (BitVec 8)):List (BitVec 8):=toB (sgnC P Q G x msg) (byteSz Q)++toB (sgnS P Q G x msg) (byteSz Q)
section
variable (gr P Q G H k : Nat) (w : World)
set_option maxRecDepth 100000 in
set_option maxHeartbeats 4000000 in
theorem ssign_any (va:Value) (x:Nat) (A:Option Addr) (n c:Nat) (msg:List (BitVec 8)) (h:GrpV w gr P Q G H) (hV:NatV w va x) (hM:Pt.ok w ⟨A,n,c,msg⟩) (hF:Fit k x) (hQ:Fit k Q) (hP:Fit k P) (hGf:Fit k G) (hk:k≤50000) (hk32:32≤k) (hn7:n≤1000000) (hx0:0<x) (hxQ:x<Q) (hP0:0<P):
 Calls Tryz.prog 38 #[.pointer (some ⟨gr,0,none⟩),va,.slice A n c] w (RetB w (2*byteSz Q) (signB P Q G x msg) 0):=by
 obtain⟨A1,l1,c1,xs,rfl, -⟩:=hV.open_
 have HG:=hide h
 have HM:=hide hM
 have hzl:=byteSz_le hQ
 have hbx:bytelen x≤byteSz Q:=byteSz_mono (Nat.le_of_lt hxQ)
 obtain⟨z,hz⟩:∃z,z=byteSz Q:=⟨_,rfl⟩
 obtain⟨y,hy⟩:∃y,y=G^x % P:=⟨_,rfl⟩
 have hFy:Fit k y:=by rw[hy];exact hP.le (Nat.le_of_lt (Nat.mod_lt _ hP0))
 obtain⟨R,hR⟩:∃R,R=RetB w (2*byteSz Q) (signB P Q G x msg) 0:=⟨_,rfl⟩
 rw[←hR]
 rw[←hz]at hzl hbx
 have Hz:=hide hz
 have Hy:=hide hy
 have HR:=hide hR
 clear hz hy hR h hM
 go_enter Tryz.func38,Tryz.ntmps38
 have b4:Box (w.alloc (.cells #[.slice A1 l1 c1] 39)) w.heap.size 39 (.slice A1 l1 c1):=Box.new _ _ _
 have q4:=b4.cell
 go_wp2_with fail
 clear q4
 refine name_c (fun W hW=>?_)
 rw[←hW]at b4
 have hE:Ext w W:=by rw[hW];exact(Upd.refl _ w).alloc _
 clear hW
 refine(spub_any gr P Q G H k W _ x (HG.out.ext hE) (hV.ext hE) hF hQ hP hGf hk hx0 hxQ).mono ?_
 rw[←Hy.out]
 rintro e w1 ⟨A2,l2,c2,rfl,hV2,hU1⟩
 go_wp2_with fail
 refine name_w (fun X hX=>?_)
 have hU1X:Ext W X:=by rw[hX];exact hU1.alloc _
 have b4':=b4.ext hU1X
 have b8:Box X w1.heap.size 39 (.slice A2 l2 c2):=by rw[hX];exact Box.new _ _ _
 have hVy:NatV X (.agg #[.slice A2 l2 c2]) y:=by rw[hX];exact hV2.ext ((Upd.refl _ _).alloc _)
 have hEX:=hE.trans hU1X
 have hs8:w.heap.size<w1.heap.size:=Nat.lt_of_lt_of_le b4.lt hU1.size
 clear hX hV2 hU1 hU1X hE b4
 have q1:=fun y:Wd (Ext X.drew)=>y.ok.cellv b4'.drew.cell
 have hED:Ext w X.drew:=hEX.drew
 refine wp_region_plan (Ext _) 8 [(false,0),(false,1),(true,2),(true,3),(false,4),(false,5),(false,6),(false,7)] (by kernel_rfl) (by kernel_rfl) (Upd.refl _ _) (fun hne=>?_)
 repeat (refine head_q rfl (fun K hK=>?_);have hK2:=hide hK;clear hK;go_simp;refine hK2.out _ ?_;clear hK2 K)
 refine head_l rfl ?_
 go_wp2_with (go_at_call 42;go_must (refine(swidth_any gr P Q G H k _ (HG.out.ext hED) hQ (by omega)).mono ?_);rw[←Hz.out];rintro e w2 ⟨rfl,hU2⟩)
 refine⟨Cls (Ext _),fun _ h=>h,⟨⟨_,hU2⟩,rfl⟩,?_⟩
 repeat (refine head_q rfl (fun K hK=>?_);have hK2:=hide hK;clear hK;go_simp;refine hK2.out _ ?_;clear hK2 K)
 refine head_l rfl ?_
 go_wp2_with (go_at_call 74;go_must (refine(bytes_any _ x k z _ (hV.ext (hED.trans hU2)) hF (by omega) hbx (by omega)).mono ?_);rintro e w3 ⟨A3,c3,rfl,hl3,hO3,hU3⟩;replace hU3:=hU2.trans hU3)
 refine⟨Cls (Ext _),fun _ h=>h,⟨⟨_,hU3⟩,rfl⟩,?_⟩
 repeat (refine head_q rfl (fun K hK=>?_);have hK2:=hide hK;clear hK;go_simp;refine hK2.out _ ?_;clear hK2 K)
 have hpt:=Own.pt hO3 hl3
 have hE3:=hEX.trans hU3.undrew
 have b4:=b4'.ext hU3.undrew
 have b8':=b8.ext hU3.undrew
 have hVy':=hVy.ext hU3.undrew
 clear q1 hO3 hl3 hU2 hED b4' b8 hVy hEX
 refine head_nil ?_
 try simp only[List.drop_succ_cons,List.drop_zero]
 go_wp2_with fail
 refine(expand_any A3 z c3 (toB x z) A n c msg 64 _ hpt.2.2.2 hpt.1 hpt.2.1 hpt.2.2.1 (by omega) (HM.out.ext hE3).1 HM.out.2.1 HM.out.2.2.1 HM.out.2.2.2 hn7 (by omega)).mono ?_
 rintro e w4 ⟨A4,c4,rfl,hO4,hU4⟩
 have hE4:=hE3.trans hU4
 have b4':=b4.ext hU4
 have b8:=b8'.ext hU4
 have hVy:=hVy'.ext hU4
 have hS4:=hO4.sl
 have hdr:drawN Q x msg=ofB (Mac.expand (toB x z) msg 64) % Q:=by unfold drawN;rw[←Hz.out]
 have hel:=Mac.expand_length (toB x z) msg 64
 obtain⟨d,hd⟩:∃d,d=drawN Q x msg:=⟨_,rfl⟩
 rw[←hd]at hdr
 have Hdr:=hide hdr
 have Hd:=hide hd
 have Hel:=hide hel
 clear hpt hO4 hU4 hE3 b4 b8' hVy' hdr hd hel
 go_wp2_with fail
 refine(snumber_any gr P Q G H k _ A4 64 c4 _ (HG.out.ext hE4) hS4 Hel.out (by omega) hQ hk hk32).mono ?_
 rw[←Hdr.out]
 rintro e w5 ⟨A5,l5,c5,rfl,hV5,hU5⟩
 have q13:=(Box.new w5 39 (.slice A5 l5 c5)).cell
 go_wp2_with fail
 clear q13
 refine name_c (fun V0 hV0=>?_)
 have hU5V:Ext w4 V0:=by rw[hV0];exact hU5.alloc _
 have b13:Box V0 w5.heap.size 39 (.slice A5 l5 c5):=by rw[hV0];exact Box.new _ _ _
 have hV5':NatV V0 (.agg #[.slice A5 l5 c5]) d:=by rw[hV0];exact hV5.ext ((Upd.refl _ _).alloc _)
 have b4:=b4'.ext hU5V
 have b8':=b8.ext hU5V
 have hVy':=hVy.ext hU5V
 have hEV0:=hE4.trans hU5V
 have hs13:w1.heap.size<w5.heap.size:=Nat.lt_of_lt_of_le b8.lt hU5.size
 clear hV0 hV5 hU5 hU5V b4' b8 hVy hE4 hS4
 refine(zero_any _ d _ hV5').mono ?_
 rintro e w6 ⟨rfl,hU6⟩
 by_cases hd0:d=0
 case pos=>
  rw[decide_eq_true hd0]
  go_wp2_with fail
  refine(new_any 1 _ (by decide)).mono ?_
  rintro e w7 ⟨AK,lK,cK,rfl,hV7,hU7⟩
  have hU67:=hU6.trans hU7
  have b13o:=b13.ext hU67
  have z2:=b13o.cell
  have z3:=b13o.frozen
  have hs5:=hU67.size
  have hs13w:w5.heap.size<w7.heap.size:=b13o.lt
  have b4':=(b4.ext hU67).far (p:=⟨w5.heap.size,0,none⟩) (by show w.heap.size≠w5.heap.size;omega) (.slice AK lK cK)
  have b8:=(b8'.ext hU67).far (p:=⟨w5.heap.size,0,none⟩) (by show w1.heap.size≠w5.heap.size;omega) (.slice AK lK cK)
  have b13n:=b13o.set (.slice AK lK cK)
  have hVy:=(hVy'.ext hU67).far (v:=.slice AK lK cK) z2
  obtain⟨kk,hkk⟩:∃kk,kk=1:=⟨_,rfl⟩
  have hFk:Fit k kk:=by rw[hkk];exact Fit.mono (by unfold Fit;decide) (show 1≤k by omega)
  have HK:Hid (kk=sgnK Q x msg):=hide (by unfold sgnK nz1;rw[←Hd.out,if_pos hd0,hkk])
  rw[←hkk]at hV7
  have hVK:=hV7.far (v:=.slice AK lK cK) z2
  have hEV:Ext w (w7.setCell ⟨w5.heap.size,0,none⟩ (.slice AK lK cK)):=(hEV0.trans hU67).setCell (p:=⟨w5.heap.size,0,none⟩) (.inr (show w.heap.size≤w5.heap.size by omega)) _
  clear b13 hV5' hVy' hU6 hU7 hU67 b8' b4 hEV0 hkk b13o hV7
  go_wp2_with fail
  refine name_c (fun V hV9=>?_)
  rw[←hV9]at b4' b8 b13n hVy hVK hEV
  have b13:=b13n
  clear hV9 z2 z3 b13n hs5 hs13w
  refine(gField_any gr P Q G H _ (HG.out.ext hEV)).mono ?_
  rintro e w8 ⟨gq,rfl,hRq,rfl⟩
  go_wp2_with fail
  refine name_w (fun X hX=>?_)
  subst hX
  refine wp_region_fg 10 [.val (.eq (.pointer (some ⟨gr,0,none⟩))),.val (.eq (.pointer (some ⟨gr,0,none⟩))),.val (.eq (.pointer (some ⟨gr,0,none⟩))),.val (.p (natP (G))),.val (.eq (.agg #[.slice AK lK cK])),.val (.p (natP (G^kk % P))),.val (.eq (.agg #[.slice A2 l2 c2])),.val (.eq (.slice A n c)),.val (.p (natP (chalOf [sgnB,memBy P Q (G^kk % P),memBy P Q y,msg] Q))),.new 39 (.slice none 0 0)] [] (by kernel_rfl) rfl (by kernel_rfl) (by kernel_rfl) (by kernel_rfl) ?_ ?_
  · intro i hi
    match i,hi with
    | 0,_=>
      intro u wx S o ho hE hr hd hw
      injection (ho:some _=some o)with ho
      subst ho
      have hEx:Ext X wx:=hE.undrew
      simp only[fr,dstOf]
      go_simp
      go_wp2
      first | exact⟨Upd.refl _ _,rfl⟩ | exact⟨_,rfl,Upd.refl _ _,rfl⟩
    | 1,_=>
      intro u wx S o ho hE hr hd hw
      injection (ho:some _=some o)with ho
      subst ho
      have hEx:Ext X wx:=hE.undrew
      simp only[fr,dstOf]
      go_simp
      go_wp2
      first | exact⟨Upd.refl _ _,rfl⟩ | exact⟨_,rfl,Upd.refl _ _,rfl⟩
    | 2,_=>
      intro u wx S o ho hE hr hd hw
      injection (ho:some _=some o)with ho
      subst ho
      have hEx:Ext X wx:=hE.undrew
      simp only[fr,dstOf]
      go_simp
      go_wp2
      first | exact⟨Upd.refl _ _,rfl⟩ | exact⟨_,rfl,Upd.refl _ _,rfl⟩
    | 3,_=>
      intro u wx S o ho hE hr hd hw
      injection (ho:some _=some o)with ho
      subst ho
      have hEx:Ext X wx:=hE.undrew
      have f2:u 2=.pointer (some ⟨gr,0,none⟩):=hw 2 (by omega) (by kernel_rfl) (by simp)
      simp only[fr,dstOf]
      go_simp
      go_wp2_with fail
      refine(gG_any gr P Q G H _ (HG.out.ext (hEV.trans hEx))).mono ?_
      rintro e wn ⟨A9,l9,c9,rfl,hVn,hU⟩
      go_wp2_with fail
      first | exact⟨_,rfl,hU.mono (fun _ _ h=>h.elim),_,_,_,rfl,hVn⟩ | exact⟨hU.mono (fun _ _ h=>h.elim),_,_,_,rfl,hVn⟩
    | 4,_=>
      intro u wx S o ho hE hr hd hw
      injection (ho:some _=some o)with ho
      subst ho
      have hEx:Ext X wx:=hE.undrew
      have cx:=(b13.ext hEx).cell
      simp only[fr,dstOf]
      go_simp
      go_wp2
      first | exact⟨Upd.refl _ _,rfl⟩ | exact⟨_,rfl,Upd.refl _ _,rfl⟩
    | 5,_=>
      intro u wx S o ho hE hr hd hw
      injection (ho:some _=some o)with ho
      subst ho
      have hEx:Ext X wx:=hE.undrew
      have f1:u 1=.pointer (some ⟨gr,0,none⟩):=hw 1 (by omega) (by kernel_rfl) (by simp)
      obtain⟨aA3,aL3,aC3,f3,hV3⟩:FG.J 3 (.val (.p (natP (G)))) u wx (S 3):=hw 3 (by omega) (by kernel_rfl) (by simp)
      have f4:u 4=.agg #[.slice AK lK cK]:=hw 4 (by omega) (by kernel_rfl) (by simp)
      simp only[fr,dstOf]
      go_simp
      go_wp2_with fail
      refine(gExp_any gr P Q G H k _ _ _ G kk k (HG.out.ext (hEV.trans hEx)) hV3 (hVK.ext hEx) hGf hP hFk hk hk).mono ?_
      rintro e wn ⟨A9,l9,c9,rfl,hVn,hU⟩
      go_wp2_with fail
      first | exact⟨_,rfl,hU.mono (fun _ _ h=>h.elim),_,_,_,rfl,hVn⟩ | exact⟨hU.mono (fun _ _ h=>h.elim),_,_,_,rfl,hVn⟩
    | 6,_=>
      intro u wx S o ho hE hr hd hw
      injection (ho:some _=some o)with ho
      subst ho
      have hEx:Ext X wx:=hE.undrew
      have cx:=(b8.ext hEx).cell
      simp only[fr,dstOf]
      go_simp
      go_wp2
      first | exact⟨Upd.refl _ _,rfl⟩ | exact⟨_,rfl,Upd.refl _ _,rfl⟩
    | 7,_=>
      intro u wx S o ho hE hr hd hw
      injection (ho:some _=some o)with ho
      subst ho
      have hEx:Ext X wx:=hE.undrew
      simp only[fr,dstOf]
      go_simp
      go_wp2
      first | exact⟨Upd.refl _ _,rfl⟩ | exact⟨_,rfl,Upd.refl _ _,rfl⟩
    | 8,_=>
      intro u wx S o ho hE hr hd hw
      injection (ho:some _=some o)with ho
      subst ho
      have hEx:Ext X wx:=hE.undrew
      have f0:u 0=.pointer (some ⟨gr,0,none⟩):=hw 0 (by omega) (by kernel_rfl) (by simp)
      obtain⟨aA5,aL5,aC5,f5,hV5⟩:FG.J 5 (.val (.p (natP (G^kk % P)))) u wx (S 5):=hw 5 (by omega) (by kernel_rfl) (by simp)
      have f6:u 6=.agg #[.slice A2 l2 c2]:=hw 6 (by omega) (by kernel_rfl) (by simp)
      have f7:u 7=.slice A n c:=hw 7 (by omega) (by kernel_rfl) (by simp)
      simp only[fr,dstOf]
      go_simp
      go_wp2_with fail
      refine(schal_any gr P Q G H k _ _ _ (G^kk % P) y A n c msg (HG.out.ext (hEV.trans hEx)) hV5 (hVy.ext hEx) (HM.out.ext (hEV.trans hEx)) (hP.le (Nat.le_of_lt (Nat.mod_lt _ hP0))) hFy hP hQ hk (by omega) (by omega)).mono ?_
      rintro e wn ⟨A9,l9,c9,rfl,hVn,hU⟩
      go_wp2_with fail
      first | exact⟨_,rfl,hU.mono (fun _ _ h=>h.elim),_,_,_,rfl,hVn⟩ | exact⟨hU.mono (fun _ _ h=>h.elim),_,_,_,rfl,hVn⟩
    | 9,_=>
      intro u wx S o ho hE hr hd hw
      injection (ho:some _=some o)with ho
      subst ho
      have hEx:Ext X wx:=hE.undrew
      simp only[fr,dstOf]
      go_simp
      go_wp2
      first | exact⟨(Upd.refl _ _).alloc _,wx.heap.size,rfl,Bx.new _ _ _,⟨Nat.le_refl _,by first | exact Nat.lt_succ_self _ | simp⟩,fun b hb=>by first | omega | (simp at hb;omega)⟩ | exact⟨_,rfl,(Upd.refl _ _).alloc _,wx.heap.size,rfl,Bx.new _ _ _,⟨Nat.le_refl _,by first | exact Nat.lt_succ_self _ | simp⟩,fun b hb=>by first | omega | (simp at hb;omega)⟩
    | k+10,h=>exact absurd h (by omega)
  · intro u wx S hE hw hrg hdj
    have hEx:Ext X wx:=hE.undrew
    have f0:u 0=.pointer (some ⟨gr,0,none⟩):=hw 0 (by omega) (by simp)
    have f1:u 1=.pointer (some ⟨gr,0,none⟩):=hw 1 (by omega) (by simp)
    have f2:u 2=.pointer (some ⟨gr,0,none⟩):=hw 2 (by omega) (by simp)
    obtain⟨aA3,aL3,aC3,f3,hV3⟩:FG.J 3 (.val (.p (natP (G)))) u wx (S 3):=hw 3 (by omega) (by simp)
    have f4:u 4=.agg #[.slice AK lK cK]:=hw 4 (by omega) (by simp)
    obtain⟨aA5,aL5,aC5,f5,hV5⟩:FG.J 5 (.val (.p (natP (G^kk % P)))) u wx (S 5):=hw 5 (by omega) (by simp)
    have f6:u 6=.agg #[.slice A2 l2 c2]:=hw 6 (by omega) (by simp)
    have f7:u 7=.slice A n c:=hw 7 (by omega) (by simp)
    obtain⟨aA8,aL8,aC8,f8,hV8⟩:FG.J 8 (.val (.p (natP (chalOf [sgnB,memBy P Q (G^kk % P),memBy P Q y,msg] Q)))) u wx (S 8):=hw 8 (by omega) (by simp)
    obtain⟨g9,f9,hb9,hs9,hall9⟩:FG.J 9 (.new 39 (.slice none 0 0)) u wx (S 9):=hw 9 (by omega) (by simp)
    simp only[fr,dstOf]
    go_simp
    have cg9:=hb9.cell
    have fg9:=hb9.frozen
    have hXg:X.heap.size≤g9:=(hrg 9 g9 hs9).1
    have hVc:=hV8.far (v:=.slice aA8 aL8 aC8) cg9
    have hEXs:Ext X (wx.setCell ⟨g9,0,none⟩ (.slice aA8 aL8 aC8)):=hEx.setCell (p:=⟨g9,0,none⟩) (.inr hXg) _
    have b15:Box (wx.setCell ⟨g9,0,none⟩ (.slice aA8 aL8 aC8)) g9 39 (.slice aA8 aL8 aC8):=Box.set (Box.bx hb9) _
    obtain⟨cc,hcc⟩:∃cc,cc=chalOf [sgnB,memBy P Q (G^kk % P),memBy P Q y,msg] Q:=⟨_,rfl⟩
    have hcQ:cc<Q:=by rw[hcc];exact chalOf_lt (by omega)
    rw[←hcc]at hVc
    have HC:Hid (cc=sgnC P Q G x msg):=hide (by rw[hcc];unfold sgnC;rw[←HK.out,←Hy.out])
    have hFc:Fit k cc:=hQ.le (Nat.le_of_lt hcQ)
    have hbc:bytelen cc≤z:=by rw[Hz.out];exact byteSz_mono (Nat.le_of_lt hcQ)
    clear hw hrg hdj hs9 hall9 hb9 hV8 hV3 hV5 hcc
    go_wp2_with fail
    refine name_w (fun Y hY=>?_)
    rw[←hY]at hVc hEXs b15
    clear hY cg9 fg9 hEx f0 f1 f2 f3 f4 f5 f6 f7 f8 f9
    have b4y:=b4'.ext hEXs
    have b13y:=b13.ext hEXs
    have hVKy:=hVK.ext hEXs
    have hRy:=hRq.ext hEXs
    have hEY:=hEV.trans hEXs
    clear hEXs b4' b13 hVK hRq hEV b8 hVy
    have q1:=fun y:Wd (Ext Y.drew)=>y.ok.cellv b15.drew.cell
    have hED:Ext w Y.drew:=hEY.drew
    refine wp_region_plan (Ext _) 8 [(false,0),(false,1),(true,2),(true,3),(false,4),(false,5),(false,6),(false,7)] (by kernel_rfl) (by kernel_rfl) (Upd.refl _ _) (fun hne=>?_)
    repeat (refine head_q rfl (fun K hK=>?_);have hK2:=hide hK;clear hK;go_simp;refine hK2.out _ ?_;clear hK2 K)
    refine head_l rfl ?_
    go_wp2_with (go_at_call 42;go_must (refine(swidth_any gr P Q G H k _ (HG.out.ext hED) hQ (by omega)).mono ?_);rw[←Hz.out];rintro e w9 ⟨rfl,hU9⟩)
    refine⟨Cls (Ext _),fun _ h=>h,⟨⟨_,hU9⟩,rfl⟩,?_⟩
    repeat (refine head_q rfl (fun K hK=>?_);have hK2:=hide hK;clear hK;go_simp;refine hK2.out _ ?_;clear hK2 K)
    refine head_l rfl ?_
    go_wp2_with (go_at_call 74;go_must (refine(bytes_any _ cc k z _ (hVc.ext ((Upd.refl _ _).drew.trans hU9)) hFc (by omega) hbc (by omega)).mono ?_);rintro e w10 ⟨A10,c10,rfl,hl10,hO10,hU10⟩;replace hU10:=hU9.trans hU10)
    refine⟨Cls (Ext _),fun _ h=>h,⟨⟨_,hU10⟩,rfl⟩,?_⟩
    repeat (refine head_q rfl (fun K hK=>?_);have hK2:=hide hK;clear hK;go_simp;refine hK2.out _ ?_;clear hK2 K)
    have hYw:=hU10.undrew
    have hO10':=hO10.mono (B':=w.heap.size) (Nat.le_trans hED.size hU9.size)
    clear q1 hU9 hU10 hED hO10
    refine head_nil ?_
    try simp only[List.drop_succ_cons,List.drop_zero]
    have b4:=b4y.ext hYw
    have b13:=b13y.ext hYw
    have b15':=b15.ext hYw
    have hVK:=hVKy.ext hYw
    have hVc':=hVc.ext hYw
    have hR:=hRy.ext hYw
    have hE10:=hEY.trans hYw
    clear b4y b13y b15 hVKy hVc hRy hEY hYw
    go_wp2_with fail
    refine name_w (fun U hU=>?_)
    subst hU
    have q1:=fun y:Wd (Ext U.drew)=>y.ok.cellv b13.drew.cell
    have q2:=fun y:Wd (Ext U.drew)=>y.ok.cellv b15'.drew.cell
    have q3:=fun y:Wd (Ext U.drew)=>y.ok.cellv b4.drew.cell
    have hED:Ext w U.drew:=hE10.drew
    have hUd:Ext U U.drew:=(Upd.refl _ _).drew
    have hFm:Fit k (cc*x % Q):=hQ.le (Nat.le_of_lt (Nat.mod_lt _ (by omega)))
    have hsQ:(kk+cc*x % Q) % Q<Q:=Nat.mod_lt _ (by omega)
    have hFs:Fit k ((kk+cc*x % Q) % Q):=hQ.le (Nat.le_of_lt hsQ)
    have hbs:bytelen ((kk+cc*x % Q) % Q)≤z:=by rw[Hz.out];exact byteSz_mono (Nat.le_of_lt hsQ)
    obtain⟨ss,hss⟩:∃ss,ss=(kk+cc*x % Q) % Q:=⟨_,rfl⟩
    rw[←hss]at hFs hbs
    have Hss:=hide hss
    clear hss hsQ
    refine wp_region_plan (Ext _) 14 [(false,0),(false,1),(false,2),(false,3),(false,4),(false,7),(true,5),(true,6),(true,8),(true,9),(false,10),(false,11),(false,12),(false,13)] (by kernel_rfl) (by kernel_rfl) (Upd.refl _ _) (fun hne=>?_)
    repeat (refine head_q rfl (fun K hK=>?_);have hK2:=hide hK;clear hK;go_simp;refine hK2.out _ ?_;clear hK2 K)
    refine head_l rfl ?_
    go_wp2_with (go_at_call 79;go_must (refine(mmul_any _ _ gq cc x Q k _ (hR.ext hUd) (hVc'.ext hUd) (hV.ext hED) hFc hF hQ (by omega)).mono ?_);rintro e w11 ⟨A11,l11,c11,rfl,hV11,hU11⟩)
    refine⟨Cls (Ext _),fun _ h=>h,⟨⟨_,hU11⟩,rfl⟩,?_⟩
    repeat (refine head_q rfl (fun K hK=>?_);have hK2:=hide hK;clear hK;go_simp;refine hK2.out _ ?_;clear hK2 K)
    refine head_l rfl ?_
    go_wp2_with (go_at_call 78;go_must (refine(madd_any _ _ gq kk (cc*x % Q) Q k _ (hR.ext (hUd.trans hU11)) (hVK.ext (hUd.trans hU11)) hV11 hFk hFm hQ (by omega)).mono ?_);rw[←Hss.out];rintro e w12 ⟨A12,l12,c12,rfl,hV12,hU12⟩;replace hU12:=hU11.trans hU12)
    refine⟨Cls (Ext _),fun _ h=>h,⟨⟨_,hU12⟩,rfl⟩,?_⟩
    repeat (refine head_q rfl (fun K hK=>?_);have hK2:=hide hK;clear hK;go_simp;refine hK2.out _ ?_;clear hK2 K)
    refine head_l rfl ?_
    go_wp2_with (go_at_call 42;go_must (refine(swidth_any gr P Q G H k _ (HG.out.ext (hED.trans hU12)) hQ (by omega)).mono ?_);rw[←Hz.out];rintro e w13 ⟨rfl,hU13⟩;have hU13g:=hU12.trans hU13)
    refine⟨Cls (Ext _),fun _ h=>h,⟨⟨_,hU13g⟩,rfl⟩,?_⟩
    repeat (refine head_q rfl (fun K hK=>?_);have hK2:=hide hK;clear hK;go_simp;refine hK2.out _ ?_;clear hK2 K)
    refine head_l rfl ?_
    go_wp2_with (go_at_call 74;go_must (refine(bytes_any _ ss k z _ (hV12.ext hU13) hFs (by omega) hbs (by omega)).mono ?_);rintro e w14 ⟨A14,c14,rfl,hl14,hO14,hU14⟩;replace hU14:=hU13g.trans hU14)
    refine⟨Cls (Ext _),fun _ h=>h,⟨⟨_,hU14⟩,rfl⟩,?_⟩
    repeat (refine head_q rfl (fun K hK=>?_);have hK2:=hide hK;clear hK;go_simp;refine hK2.out _ ?_;clear hK2 K)
    have hUw:=hU14.undrew
    have hS14:=hO14.sl
    have hO:=hO10'.ext hUw
    have hEE:=hE10.trans hUw
    obtain⟨N,hN⟩:∃N,N=2*byteSz Q:=⟨_,rfl⟩
    have hNz:N=z+z:=by rw[hN,Hz.out];omega
    have hlN:(toB cc z++toB ss z).length=N:=by rw[List.length_append,hl10,hl14,hNz]
    have HN:=hide hN
    have HlN:=hide hlN
    have hNm:N≤1000000:=by omega
    have Hl10:=hide hl10
    have Hl14:=hide hl14
    have hfin:toB cc z++toB ss z=signB P Q G x msg:=by unfold signB sgnS;rw[←HC.out,←HK.out,←Hz.out,←Hss.out]
    have Hfin:=hide hfin
    clear q1 q2 q3 hO14 hU11 hU12 hU13 hU13g hU14 hE10 hUd hED hO10' hN hNz hlN hl10 hl14 hV11 hV12 hfin
    refine head_nil ?_
    try simp only[List.drop_succ_cons,List.drop_zero]
    go_wp2_with (at_builtin;go_must (refine wpList_apd by8 one8 Tryz.el8 (toB cc z) (toB ss z) (toB cc z++toB ss z) N rfl HlN.out (by omega) (by unfold maxLen;omega) rfl rfl rfl Hl10.out hO rfl Hl14.out hS14 hEE.size ?_);intro A15 c15 w15 hO15 hU15 hin15)
    have hEF:=upd_new hU15 hEE (fun q hq=>(hO.in_ hq).1)
    rw[HR.out,←Hfin.out,←HN.out]
    exact⟨A15,c15,rfl,HlN.out,hO15,hEF⟩
 case neg=>
  rw[decide_eq_false hd0]
  have hEV:=hEV0.trans hU6
  have b4':=b4.ext hU6
  have b8:=b8'.ext hU6
  have b13':=b13.ext hU6
  have hVy:=hVy'.ext hU6
  have hVK:=hV5'.ext hU6
  obtain⟨kk,hkk⟩:∃kk,kk=d:=⟨_,rfl⟩
  have hFk:Fit k kk:=by rw[hkk,Hdr.out];exact hQ.le (Nat.le_of_lt (Nat.mod_lt _ (by omega)))
  have HK:Hid (kk=sgnK Q x msg):=hide (by unfold sgnK nz1;rw[←Hd.out,if_neg hd0,hkk])
  rw[←hkk]at hVK
  obtain⟨AK,lK,cK,hAK⟩:∃AK lK cK,(AK,lK,cK)=(A5,l5,c5):=⟨_,_,_,rfl⟩
  injection hAK with hAK1 hAK2
  injection hAK2 with hAK2 hAK3
  subst hAK1 hAK2 hAK3
  replace b13:=b13'
  clear b13' hV5' hVy' hU6 b8' b4 hEV0 hkk
  go_wp2_with fail
  refine(gField_any gr P Q G H _ (HG.out.ext hEV)).mono ?_
  rintro e w8 ⟨gq,rfl,hRq,rfl⟩
  go_wp2_with fail
  refine name_w (fun X hX=>?_)
  subst hX
  refine wp_region_fg 10 [.val (.eq (.pointer (some ⟨gr,0,none⟩))),.val (.eq (.pointer (some ⟨gr,0,none⟩))),.val (.eq (.pointer (some ⟨gr,0,none⟩))),.val (.p (natP (G))),.val (.eq (.agg #[.slice AK lK cK])),.val (.p (natP (G^kk % P))),.val (.eq (.agg #[.slice A2 l2 c2])),.val (.eq (.slice A n c)),.val (.p (natP (chalOf [sgnB,memBy P Q (G^kk % P),memBy P Q y,msg] Q))),.new 39 (.slice none 0 0)] [] (by kernel_rfl) rfl (by kernel_rfl) (by kernel_rfl) (by kernel_rfl) ?_ ?_
  · intro i hi
    match i,hi with
    | 0,_=>
      intro u wx S o ho hE hr hd hw
      injection (ho:some _=some o)with ho
      subst ho
      have hEx:Ext X wx:=hE.undrew
      simp only[fr,dstOf]
      go_simp
      go_wp2
      first | exact⟨Upd.refl _ _,rfl⟩ | exact⟨_,rfl,Upd.refl _ _,rfl⟩
    | 1,_=>
      intro u wx S o ho hE hr hd hw
      injection (ho:some _=some o)with ho
      subst ho
      have hEx:Ext X wx:=hE.undrew
      simp only[fr,dstOf]
      go_simp
      go_wp2
      first | exact⟨Upd.refl _ _,rfl⟩ | exact⟨_,rfl,Upd.refl _ _,rfl⟩
    | 2,_=>
      intro u wx S o ho hE hr hd hw
      injection (ho:some _=some o)with ho
      subst ho
      have hEx:Ext X wx:=hE.undrew
      simp only[fr,dstOf]
      go_simp
      go_wp2
      first | exact⟨Upd.refl _ _,rfl⟩ | exact⟨_,rfl,Upd.refl _ _,rfl⟩
    | 3,_=>
      intro u wx S o ho hE hr hd hw
      injection (ho:some _=some o)with ho
      subst ho
      have hEx:Ext X wx:=hE.undrew
      have f2:u 2=.pointer (some ⟨gr,0,none⟩):=hw 2 (by omega) (by kernel_rfl) (by simp)
      simp only[fr,dstOf]
      go_simp
      go_wp2_with fail
      refine(gG_any gr P Q G H _ (HG.out.ext (hEV.trans hEx))).mono ?_
      rintro e wn ⟨A9,l9,c9,rfl,hVn,hU⟩
      go_wp2_with fail
      first | exact⟨_,rfl,hU.mono (fun _ _ h=>h.elim),_,_,_,rfl,hVn⟩ | exact⟨hU.mono (fun _ _ h=>h.elim),_,_,_,rfl,hVn⟩
    | 4,_=>
      intro u wx S o ho hE hr hd hw
      injection (ho:some _=some o)with ho
      subst ho
      have hEx:Ext X wx:=hE.undrew
      have cx:=(b13.ext hEx).cell
      simp only[fr,dstOf]
      go_simp
      go_wp2
      first | exact⟨Upd.refl _ _,rfl⟩ | exact⟨_,rfl,Upd.refl _ _,rfl⟩
    | 5,_=>
      intro u wx S o ho hE hr hd hw
      injection (ho:some _=some o)with ho
      subst ho
      have hEx:Ext X wx:=hE.undrew
      have f1:u 1=.pointer (some ⟨gr,0,none⟩):=hw 1 (by omega) (by kernel_rfl) (by simp)
      obtain⟨aA3,aL3,aC3,f3,hV3⟩:FG.J 3 (.val (.p (natP (G)))) u wx (S 3):=hw 3 (by omega) (by kernel_rfl) (by simp)
      have f4:u 4=.agg #[.slice AK lK cK]:=hw 4 (by omega) (by kernel_rfl) (by simp)
      simp only[fr,dstOf]
      go_simp
      go_wp2_with fail
      refine(gExp_any gr P Q G H k _ _ _ G kk k (HG.out.ext (hEV.trans hEx)) hV3 (hVK.ext hEx) hGf hP hFk hk hk).mono ?_
      rintro e wn ⟨A9,l9,c9,rfl,hVn,hU⟩
      go_wp2_with fail
      first | exact⟨_,rfl,hU.mono (fun _ _ h=>h.elim),_,_,_,rfl,hVn⟩ | exact⟨hU.mono (fun _ _ h=>h.elim),_,_,_,rfl,hVn⟩
    | 6,_=>
      intro u wx S o ho hE hr hd hw
      injection (ho:some _=some o)with ho
      subst ho
      have hEx:Ext X wx:=hE.undrew
      have cx:=(b8.ext hEx).cell
      simp only[fr,dstOf]
      go_simp
      go_wp2
      first | exact⟨Upd.refl _ _,rfl⟩ | exact⟨_,rfl,Upd.refl _ _,rfl⟩
    | 7,_=>
      intro u wx S o ho hE hr hd hw
      injection (ho:some _=some o)with ho
      subst ho
      have hEx:Ext X wx:=hE.undrew
      simp only[fr,dstOf]
      go_simp
      go_wp2
      first | exact⟨Upd.refl _ _,rfl⟩ | exact⟨_,rfl,Upd.refl _ _,rfl⟩
    | 8,_=>
      intro u wx S o ho hE hr hd hw
      injection (ho:some _=some o)with ho
      subst ho
      have hEx:Ext X wx:=hE.undrew
      have f0:u 0=.pointer (some ⟨gr,0,none⟩):=hw 0 (by omega) (by kernel_rfl) (by simp)
      obtain⟨aA5,aL5,aC5,f5,hV5⟩:FG.J 5 (.val (.p (natP (G^kk % P)))) u wx (S 5):=hw 5 (by omega) (by kernel_rfl) (by simp)
      have f6:u 6=.agg #[.slice A2 l2 c2]:=hw 6 (by omega) (by kernel_rfl) (by simp)
      have f7:u 7=.slice A n c:=hw 7 (by omega) (by kernel_rfl) (by simp)
      simp only[fr,dstOf]
      go_simp
      go_wp2_with fail
      refine(schal_any gr P Q G H k _ _ _ (G^kk % P) y A n c msg (HG.out.ext (hEV.trans hEx)) hV5 (hVy.ext hEx) (HM.out.ext (hEV.trans hEx)) (hP.le (Nat.le_of_lt (Nat.mod_lt _ hP0))) hFy hP hQ hk (by omega) (by omega)).mono ?_
      rintro e wn ⟨A9,l9,c9,rfl,hVn,hU⟩
      go_wp2_with fail
      first | exact⟨_,rfl,hU.mono (fun _ _ h=>h.elim),_,_,_,rfl,hVn⟩ | exact⟨hU.mono (fun _ _ h=>h.elim),_,_,_,rfl,hVn⟩
    | 9,_=>
      intro u wx S o ho hE hr hd hw
      injection (ho:some _=some o)with ho
      subst ho
      have hEx:Ext X wx:=hE.undrew
      simp only[fr,dstOf]
      go_simp
      go_wp2
      first | exact⟨(Upd.refl _ _).alloc _,wx.heap.size,rfl,Bx.new _ _ _,⟨Nat.le_refl _,by first | exact Nat.lt_succ_self _ | simp⟩,fun b hb=>by first | omega | (simp at hb;omega)⟩ | exact⟨_,rfl,(Upd.refl _ _).alloc _,wx.heap.size,rfl,Bx.new _ _ _,⟨Nat.le_refl _,by first | exact Nat.lt_succ_self _ | simp⟩,fun b hb=>by first | omega | (simp at hb;omega)⟩
    | k+10,h=>exact absurd h (by omega)
  · intro u wx S hE hw hrg hdj
    have hEx:Ext X wx:=hE.undrew
    have f0:u 0=.pointer (some ⟨gr,0,none⟩):=hw 0 (by omega) (by simp)
    have f1:u 1=.pointer (some ⟨gr,0,none⟩):=hw 1 (by omega) (by simp)
    have f2:u 2=.pointer (some ⟨gr,0,none⟩):=hw 2 (by omega) (by simp)
    obtain⟨aA3,aL3,aC3,f3,hV3⟩:FG.J 3 (.val (.p (natP (G)))) u wx (S 3):=hw 3 (by omega) (by simp)
    have f4:u 4=.agg #[.slice AK lK cK]:=hw 4 (by omega) (by simp)
    obtain⟨aA5,aL5,aC5,f5,hV5⟩:FG.J 5 (.val (.p (natP (G^kk % P)))) u wx (S 5):=hw 5 (by omega) (by simp)
    have f6:u 6=.agg #[.slice A2 l2 c2]:=hw 6 (by omega) (by simp)
    have f7:u 7=.slice A n c:=hw 7 (by omega) (by simp)
    obtain⟨aA8,aL8,aC8,f8,hV8⟩:FG.J 8 (.val (.p (natP (chalOf [sgnB,memBy P Q (G^kk % P),memBy P Q y,msg] Q)))) u wx (S 8):=hw 8 (by omega) (by simp)
    obtain⟨g9,f9,hb9,hs9,hall9⟩:FG.J 9 (.new 39 (.slice none 0 0)) u wx (S 9):=hw 9 (by omega) (by simp)
    simp only[fr,dstOf]
    go_simp
    have cg9:=hb9.cell
    have fg9:=hb9.frozen
    have hXg:X.heap.size≤g9:=(hrg 9 g9 hs9).1
    have hVc:=hV8.far (v:=.slice aA8 aL8 aC8) cg9
    have hEXs:Ext X (wx.setCell ⟨g9,0,none⟩ (.slice aA8 aL8 aC8)):=hEx.setCell (p:=⟨g9,0,none⟩) (.inr hXg) _
    have b15:Box (wx.setCell ⟨g9,0,none⟩ (.slice aA8 aL8 aC8)) g9 39 (.slice aA8 aL8 aC8):=Box.set (Box.bx hb9) _
    obtain⟨cc,hcc⟩:∃cc,cc=chalOf [sgnB,memBy P Q (G^kk % P),memBy P Q y,msg] Q:=⟨_,rfl⟩
    have hcQ:cc<Q:=by rw[hcc];exact chalOf_lt (by omega)
    rw[←hcc]at hVc
    have HC:Hid (cc=sgnC P Q G x msg):=hide (by rw[hcc];unfold sgnC;rw[←HK.out,←Hy.out])
    have hFc:Fit k cc:=hQ.le (Nat.le_of_lt hcQ)
    have hbc:bytelen cc≤z:=by rw[Hz.out];exact byteSz_mono (Nat.le_of_lt hcQ)
    clear hw hrg hdj hs9 hall9 hb9 hV8 hV3 hV5 hcc
    go_wp2_with fail
    refine name_w (fun Y hY=>?_)
    rw[←hY]at hVc hEXs b15
    clear hY cg9 fg9 hEx f0 f1 f2 f3 f4 f5 f6 f7 f8 f9
    have b4y:=b4'.ext hEXs
    have b13y:=b13.ext hEXs
    have hVKy:=hVK.ext hEXs
    have hRy:=hRq.ext hEXs
    have hEY:=hEV.trans hEXs
    clear hEXs b4' b13 hVK hRq hEV b8 hVy
    have q1:=fun y:Wd (Ext Y.drew)=>y.ok.cellv b15.drew.cell
    have hED:Ext w Y.drew:=hEY.drew
    refine wp_region_plan (Ext _) 8 [(false,0),(false,1),(true,2),(true,3),(false,4),(false,5),(false,6),(false,7)] (by kernel_rfl) (by kernel_rfl) (Upd.refl _ _) (fun hne=>?_)
    repeat (refine head_q rfl (fun K hK=>?_);have hK2:=hide hK;clear hK;go_simp;refine hK2.out _ ?_;clear hK2 K)
    refine head_l rfl ?_
    go_wp2_with (go_at_call 42;go_must (refine(swidth_any gr P Q G H k _ (HG.out.ext hED) hQ (by omega)).mono ?_);rw[←Hz.out];rintro e w9 ⟨rfl,hU9⟩)
    refine⟨Cls (Ext _),fun _ h=>h,⟨⟨_,hU9⟩,rfl⟩,?_⟩
    repeat (refine head_q rfl (fun K hK=>?_);have hK2:=hide hK;clear hK;go_simp;refine hK2.out _ ?_;clear hK2 K)
    refine head_l rfl ?_
    go_wp2_with (go_at_call 74;go_must (refine(bytes_any _ cc k z _ (hVc.ext ((Upd.refl _ _).drew.trans hU9)) hFc (by omega) hbc (by omega)).mono ?_);rintro e w10 ⟨A10,c10,rfl,hl10,hO10,hU10⟩;replace hU10:=hU9.trans hU10)
    refine⟨Cls (Ext _),fun _ h=>h,⟨⟨_,hU10⟩,rfl⟩,?_⟩
    repeat (refine head_q rfl (fun K hK=>?_);have hK2:=hide hK;clear hK;go_simp;refine hK2.out _ ?_;clear hK2 K)
    have hYw:=hU10.undrew
    have hO10':=hO10.mono (B':=w.heap.size) (Nat.le_trans hED.size hU9.size)
    clear q1 hU9 hU10 hED hO10
    refine head_nil ?_
    try simp only[List.drop_succ_cons,List.drop_zero]
    have b4:=b4y.ext hYw
    have b13:=b13y.ext hYw
    have b15':=b15.ext hYw
    have hVK:=hVKy.ext hYw
    have hVc':=hVc.ext hYw
    have hR:=hRy.ext hYw
    have hE10:=hEY.trans hYw
    clear b4y b13y b15 hVKy hVc hRy hEY hYw
    go_wp2_with fail
    refine name_w (fun U hU=>?_)
    subst hU
    have q1:=fun y:Wd (Ext U.drew)=>y.ok.cellv b13.drew.cell
    have q2:=fun y:Wd (Ext U.drew)=>y.ok.cellv b15'.drew.cell
    have q3:=fun y:Wd (Ext U.drew)=>y.ok.cellv b4.drew.cell
    have hED:Ext w U.drew:=hE10.drew
    have hUd:Ext U U.drew:=(Upd.refl _ _).drew
    have hFm:Fit k (cc*x % Q):=hQ.le (Nat.le_of_lt (Nat.mod_lt _ (by omega)))
    have hsQ:(kk+cc*x % Q) % Q<Q:=Nat.mod_lt _ (by omega)
    have hFs:Fit k ((kk+cc*x % Q) % Q):=hQ.le (Nat.le_of_lt hsQ)
    have hbs:bytelen ((kk+cc*x % Q) % Q)≤z:=by rw[Hz.out];exact byteSz_mono (Nat.le_of_lt hsQ)
    obtain⟨ss,hss⟩:∃ss,ss=(kk+cc*x % Q) % Q:=⟨_,rfl⟩
    rw[←hss]at hFs hbs
    have Hss:=hide hss
    clear hss hsQ
    refine wp_region_plan (Ext _) 14 [(false,0),(false,1),(false,2),(false,3),(false,4),(false,7),(true,5),(true,6),(true,8),(true,9),(false,10),(false,11),(false,12),(false,13)] (by kernel_rfl) (by kernel_rfl) (Upd.refl _ _) (fun hne=>?_)
    repeat (refine head_q rfl (fun K hK=>?_);have hK2:=hide hK;clear hK;go_simp;refine hK2.out _ ?_;clear hK2 K)
    refine head_l rfl ?_
    go_wp2_with (go_at_call 79;go_must (refine(mmul_any _ _ gq cc x Q k _ (hR.ext hUd) (hVc'.ext hUd) (hV.ext hED) hFc hF hQ (by omega)).mono ?_);rintro e w11 ⟨A11,l11,c11,rfl,hV11,hU11⟩)
    refine⟨Cls (Ext _),fun _ h=>h,⟨⟨_,hU11⟩,rfl⟩,?_⟩
    repeat (refine head_q rfl (fun K hK=>?_);have hK2:=hide hK;clear hK;go_simp;refine hK2.out _ ?_;clear hK2 K)
    refine head_l rfl ?_
    go_wp2_with (go_at_call 78;go_must (refine(madd_any _ _ gq kk (cc*x % Q) Q k _ (hR.ext (hUd.trans hU11)) (hVK.ext (hUd.trans hU11)) hV11 hFk hFm hQ (by omega)).mono ?_);rw[←Hss.out];rintro e w12 ⟨A12,l12,c12,rfl,hV12,hU12⟩;replace hU12:=hU11.trans hU12)
    refine⟨Cls (Ext _),fun _ h=>h,⟨⟨_,hU12⟩,rfl⟩,?_⟩
    repeat (refine head_q rfl (fun K hK=>?_);have hK2:=hide hK;clear hK;go_simp;refine hK2.out _ ?_;clear hK2 K)
    refine head_l rfl ?_
    go_wp2_with (go_at_call 42;go_must (refine(swidth_any gr P Q G H k _ (HG.out.ext (hED.trans hU12)) hQ (by omega)).mono ?_);rw[←Hz.out];rintro e w13 ⟨rfl,hU13⟩;have hU13g:=hU12.trans hU13)
    refine⟨Cls (Ext _),fun _ h=>h,⟨⟨_,hU13g⟩,rfl⟩,?_⟩
    repeat (refine head_q rfl (fun K hK=>?_);have hK2:=hide hK;clear hK;go_simp;refine hK2.out _ ?_;clear hK2 K)
    refine head_l rfl ?_
    go_wp2_with (go_at_call 74;go_must (refine(bytes_any _ ss k z _ (hV12.ext hU13) hFs (by omega) hbs (by omega)).mono ?_);rintro e w14 ⟨A14,c14,rfl,hl14,hO14,hU14⟩;replace hU14:=hU13g.trans hU14)
    refine⟨Cls (Ext _),fun _ h=>h,⟨⟨_,hU14⟩,rfl⟩,?_⟩
    repeat (refine head_q rfl (fun K hK=>?_);have hK2:=hide hK;clear hK;go_simp;refine hK2.out _ ?_;clear hK2 K)
    have hUw:=hU14.undrew
    have hS14:=hO14.sl
    have hO:=hO10'.ext hUw
    have hEE:=hE10.trans hUw
    obtain⟨N,hN⟩:∃N,N=2*byteSz Q:=⟨_,rfl⟩
    have hNz:N=z+z:=by rw[hN,Hz.out];omega
    have hlN:(toB cc z++toB ss z).length=N:=by rw[List.length_append,hl10,hl14,hNz]
    have HN:=hide hN
    have HlN:=hide hlN
    have hNm:N≤1000000:=by omega
    have Hl10:=hide hl10
    have Hl14:=hide hl14
    have hfin:toB cc z++toB ss z=signB P Q G x msg:=by unfold signB sgnS;rw[←HC.out,←HK.out,←Hz.out,←Hss.out]
    have Hfin:=hide hfin
    clear q1 q2 q3 hO14 hU11 hU12 hU13 hU13g hU14 hE10 hUd hED hO10' hN hNz hlN hl10 hl14 hV11 hV12 hfin
    refine head_nil ?_
    try simp only[List.drop_succ_cons,List.drop_zero]
    go_wp2_with (at_builtin;go_must (refine wpList_apd by8 one8 Tryz.el8 (toB cc z) (toB ss z) (toB cc z++toB ss z) N rfl HlN.out (by omega) (by unfold maxLen;omega) rfl rfl rfl Hl10.out hO rfl Hl14.out hS14 hEE.size ?_);intro A15 c15 w15 hO15 hU15 hin15)
    have hEF:=upd_new hU15 hEE (fun q hq=>(hO.in_ hq).1)
    rw[HR.out,←Hfin.out,←HN.out]
    exact⟨A15,c15,rfl,HlN.out,hO15,hEF⟩
end
end Go.Proofs.YtbhhjfhepkbfgaaGreat
