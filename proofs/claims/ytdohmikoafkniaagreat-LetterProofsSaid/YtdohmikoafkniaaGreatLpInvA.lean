/- A ring's inverse, walked. -/
import Derived.Test.YtdohmikoafkniaaGreatLpInvP
import Derived.Test.YtdohmikoafkniaaGreatLpSgnP
namespace Go.Proofs.YtdohmikoafkniaaGreat
set_option linter.unusedSimpArgs false
set_option linter.unusedVariables false
open Go.RowKit
open Nt
attribute [local go_sem] steady steadyUpon Cls same_cell anyW
attribute [local irreducible] wpHead wpTree wpHeadR
set_option maxRecDepth 100000 in
set_option maxHeartbeats 4000000 in
theorem minv_any (va:Value) (g a b m k:Nat) (w:World) (hR:RingV w g m) (hV:NatV w va a) (hFa:Fit k a) (hFm:Fit k m) (hk:k≤50000) (hk1:1≤k) (hb:b<m) (hab:a*b % m=1):
 Calls Tryz.prog 159 #[.pointer (some ⟨g,0,none⟩),va] w (RetE w b 0):=by
 obtain⟨A1,l1,c1,xs,rfl, -⟩:=hV.open_
 have HR:=hide hR
 have hm2:=hR.two
 clear hR
 go_enter Tryz.func159,Tryz.ntmps159
 go_wp2_with fail
 refine name_w (fun W hW=>?_)
 have b3:Box W w.heap.size 34 (.slice A1 l1 c1):=by rw[hW];exact(Box.new _ _ _).alloc _
 have b4:Box W (w.heap.size+1) 34 (.slice none 0 0):=by rw[hW];exact Box.new_at (by simp)
 have hE0:Ext w W:=by rw[hW];exact((Upd.refl _ _).alloc _).alloc _
 clear hW
 obtain⟨D,ld,cd,h2,hVm, -⟩:=HR.out.ext hE0
 have y0:=h2.cell0
 refine wp_region_fg 9 [.val (.eq (.pointer (some ⟨g,0,none⟩))),.val (.eq (.pointer (some ⟨g,0,none⟩))),.val (.eq (.pointer (some ⟨g,0,none⟩))),.val (.eq (.agg #[.slice D ld cd])),.val (.eq (.pointer (some ⟨g,0,none⟩))),.val (.eq (.agg #[.slice A1 l1 c1])),.val (.p (natP (a % m))),.new 34 (.slice none 0 0),.new 34 (.slice none 0 0)] [] (by kernel_rfl) rfl (by kernel_rfl) (by kernel_rfl) (by kernel_rfl) ?_ ?_
 · intro i hi
   match i,hi with
   | 0,_=>
     intro u wx S o ho hE hr hd hw
     injection (ho:some _=some o)with ho
     subst ho
     have hEx:Ext W wx:=hE.undrew
     simp only[fr,dstOf]
     go_simp
     go_wp2
     first | exact⟨Upd.refl _ _,rfl⟩ | exact⟨_,rfl,Upd.refl _ _,rfl⟩
   | 1,_=>
     intro u wx S o ho hE hr hd hw
     injection (ho:some _=some o)with ho
     subst ho
     have hEx:Ext W wx:=hE.undrew
     have f0:u 0=.pointer (some ⟨g,0,none⟩):=hw 0 (by omega) (by kernel_rfl) (by simp)
     simp only[fr,dstOf]
     go_simp
     go_wp2
     first | exact⟨Upd.refl _ _,rfl⟩ | exact⟨_,rfl,Upd.refl _ _,rfl⟩
   | 2,_=>
     intro u wx S o ho hE hr hd hw
     injection (ho:some _=some o)with ho
     subst ho
     have hEx:Ext W wx:=hE.undrew
     have f1:u 1=.pointer (some ⟨g,0,none⟩):=hw 1 (by omega) (by kernel_rfl) (by simp)
     simp only[fr,dstOf]
     go_simp
     go_wp2
     first | exact⟨Upd.refl _ _,rfl⟩ | exact⟨_,rfl,Upd.refl _ _,rfl⟩
   | 3,_=>
     intro u wx S o ho hE hr hd hw
     injection (ho:some _=some o)with ho
     subst ho
     have hEx:Ext W wx:=hE.undrew
     have f2:u 2=.pointer (some ⟨g,0,none⟩):=hw 2 (by omega) (by kernel_rfl) (by simp)
     have cx:=hEx.cellv y0
     simp only[fr,dstOf]
     go_simp
     go_wp2
     first | exact⟨Upd.refl _ _,rfl⟩ | exact⟨_,rfl,Upd.refl _ _,rfl⟩
   | 4,_=>
     intro u wx S o ho hE hr hd hw
     injection (ho:some _=some o)with ho
     subst ho
     have hEx:Ext W wx:=hE.undrew
     simp only[fr,dstOf]
     go_simp
     go_wp2
     first | exact⟨Upd.refl _ _,rfl⟩ | exact⟨_,rfl,Upd.refl _ _,rfl⟩
   | 5,_=>
     intro u wx S o ho hE hr hd hw
     injection (ho:some _=some o)with ho
     subst ho
     have hEx:Ext W wx:=hE.undrew
     have cx:=(b3.ext hEx).cell
     simp only[fr,dstOf]
     go_simp
     go_wp2
     first | exact⟨Upd.refl _ _,rfl⟩ | exact⟨_,rfl,Upd.refl _ _,rfl⟩
   | 6,_=>
     intro u wx S o ho hE hr hd hw
     injection (ho:some _=some o)with ho
     subst ho
     have hEx:Ext W wx:=hE.undrew
     have f4:u 4=.pointer (some ⟨g,0,none⟩):=hw 4 (by omega) (by kernel_rfl) (by simp)
     have f5:u 5=.agg #[.slice A1 l1 c1]:=hw 5 (by omega) (by kernel_rfl) (by simp)
     simp only[fr,dstOf]
     go_simp
     go_wp2_with fail
     refine(mof_any _ g a m k _ (HR.out.ext (hE0.trans hEx)) (hV.ext (hE0.trans hEx)) hFa hFm (by omega)).mono ?_
     rintro e wn ⟨A20,l20,c20,rfl,hVn,hU⟩
     go_wp2_with fail
     first | exact⟨_,rfl,hU.mono (fun _ _ h=>h.elim),_,_,_,rfl,hVn⟩ | exact⟨hU.mono (fun _ _ h=>h.elim),_,_,_,rfl,hVn⟩
   | 7,_=>
     intro u wx S o ho hE hr hd hw
     injection (ho:some _=some o)with ho
     subst ho
     have hEx:Ext W wx:=hE.undrew
     simp only[fr,dstOf]
     go_simp
     go_wp2
     first | exact⟨(Upd.refl _ _).alloc _,wx.heap.size,rfl,Bx.new _ _ _,⟨Nat.le_refl _,by first | exact Nat.lt_succ_self _ | simp⟩,fun b hb=>by first | omega | (simp at hb;omega)⟩ | exact⟨_,rfl,(Upd.refl _ _).alloc _,wx.heap.size,rfl,Bx.new _ _ _,⟨Nat.le_refl _,by first | exact Nat.lt_succ_self _ | simp⟩,fun b hb=>by first | omega | (simp at hb;omega)⟩
   | 8,_=>
     intro u wx S o ho hE hr hd hw
     injection (ho:some _=some o)with ho
     subst ho
     have hEx:Ext W wx:=hE.undrew
     simp only[fr,dstOf]
     go_simp
     go_wp2
     first | exact⟨(Upd.refl _ _).alloc _,wx.heap.size,rfl,Bx.new _ _ _,⟨Nat.le_refl _,by first | exact Nat.lt_succ_self _ | simp⟩,fun b hb=>by first | omega | (simp at hb;omega)⟩ | exact⟨_,rfl,(Upd.refl _ _).alloc _,wx.heap.size,rfl,Bx.new _ _ _,⟨Nat.le_refl _,by first | exact Nat.lt_succ_self _ | simp⟩,fun b hb=>by first | omega | (simp at hb;omega)⟩
   | k+9,h=>exact absurd h (by omega)
 · intro u wx S hE hw hrg hdj
   have hEx:Ext W wx:=hE.undrew
   have f0:u 0=.pointer (some ⟨g,0,none⟩):=hw 0 (by omega) (by simp)
   have f1:u 1=.pointer (some ⟨g,0,none⟩):=hw 1 (by omega) (by simp)
   have f2:u 2=.pointer (some ⟨g,0,none⟩):=hw 2 (by omega) (by simp)
   have f3:u 3=.agg #[.slice D ld cd]:=hw 3 (by omega) (by simp)
   have f4:u 4=.pointer (some ⟨g,0,none⟩):=hw 4 (by omega) (by simp)
   have f5:u 5=.agg #[.slice A1 l1 c1]:=hw 5 (by omega) (by simp)
   obtain⟨aA6,aL6,aC6,f6,hV6⟩:FG.J 6 (.val (.p (natP (a % m)))) u wx (S 6):=hw 6 (by omega) (by simp)
   obtain⟨g7,f7,hb7,hs7,hall7⟩:FG.J 7 (.new 34 (.slice none 0 0)) u wx (S 7):=hw 7 (by omega) (by simp)
   obtain⟨g8,f8,hb8,hs8,hall8⟩:FG.J 8 (.new 34 (.slice none 0 0)) u wx (S 8):=hw 8 (by omega) (by simp)
   simp only[fr,dstOf]
   go_simp
   have h78:g7≠g8:=fun e=>by
     subst e
     have:=hdj 7 8 g7 hs7 hs8
     omega
   have z7:W.heap.size≤g7:=(hrg 7 g7 hs7).1
   have z8:W.heap.size≤g8:=(hrg 8 g8 hs8).1
   have hW2:w.heap.size+1<W.heap.size:=b4.lt
   have cg7:=hb7.cell
   have cg8:=hb8.cell
   have fg7:=hb7.frozen
   have fg8:=hb8.frozen
   have hVu:=(hVm.ext hEx).far (v:=.slice D ld cd) cg7
   have hVv:=hV6.far (v:=.slice D ld cd) cg7
   have bb6:=Box.set (Box.bx hb7) (.slice D ld cd)
   have bb7:=Box.far (Box.bx hb8) (p:=⟨g7,0,none⟩) (show g8≠g7 from Ne.symm h78) (.slice D ld cd)
   have bb4:=(b4.ext hEx).far (p:=⟨g7,0,none⟩) (show w.heap.size+1≠g7 by omega) (.slice D ld cd)
   have hEs:Ext w (wx.setCell ⟨g7,0,none⟩ (.slice D ld cd)):=(hE0.trans hEx).setCell (p:=⟨g7,0,none⟩) (.inr (show w.heap.size≤g7 by omega)) _
   have cq8:=bb7.cell
   have fq8:=bb7.frozen
   have hVu2:=hVu.far (v:=.slice aA6 aL6 aC6) cq8
   have hVv2:=hVv.far (v:=.slice aA6 aL6 aC6) cq8
   have b6:=bb6.far (p:=⟨g8,0,none⟩) (show g7≠g8 from h78) (.slice aA6 aL6 aC6)
   have b7:=bb7.set (.slice aA6 aL6 aC6)
   have b4':=bb4.far (p:=⟨g8,0,none⟩) (show w.heap.size+1≠g8 by omega) (.slice aA6 aL6 aC6)
   have hE6:Ext w ((wx.setCell ⟨g7,0,none⟩ (.slice D ld cd)).setCell ⟨g8,0,none⟩ (.slice aA6 aL6 aC6)):=hEs.setCell (p:=⟨g8,0,none⟩) (.inr (show w.heap.size≤g8 by omega)) _
   have hsz8:g7<((wx.setCell ⟨g7,0,none⟩ (.slice D ld cd)).setCell ⟨g8,0,none⟩ (.slice aA6 aL6 aC6)).heap.size∧g8<((wx.setCell ⟨g7,0,none⟩ (.slice D ld cd)).setCell ⟨g8,0,none⟩ (.slice aA6 aL6 aC6)).heap.size:=⟨b6.lt,b7.lt⟩
   clear hw hrg hdj hs7 hs8 hall7 hall8 f0 f1 f2 f3 f4 f5 f6 f7 f8 hVu hVv hV6 bb6 bb7 bb4 hEs hEx hb7 hb8 h2 y0 hVm b3 b4
   go_wp2_with fail
   refine name_c (fun T hT=>?_)
   rw[←hT]at hVu2 hVv2 b6 b7 b4' hE6 hsz8
   clear hT cg7 cg8 fg7 fg8 cq8 fq8 hE0
   refine(new_any 1 T (by decide)).mono ?_
   rintro e w5 ⟨A5,l5,c5,rfl,hV5,hU5⟩
   go_wp2_with fail
   refine name_w (fun Y hY=>?_)
   have hU5Y:Ext T Y:=by rw[hY];exact(hU5.alloc _).alloc _
   have b8:Box Y w5.heap.size 34 (.slice none 0 0):=by rw[hY];exact(Box.new _ _ _).alloc _
   have b9:Box Y (w5.heap.size+1) 34 (.slice A5 l5 c5):=by rw[hY];exact Box.new_at (by simp)
   have hV9:NatV Y (.agg #[.slice A5 l5 c5]) 1:=by rw[hY];exact hV5.ext (((Upd.refl _ _).alloc _).alloc _)
   obtain⟨G8,hG8⟩:∃x,x=w5.heap.size:=⟨_,rfl⟩
   obtain⟨G9,hG9⟩:∃x,x=w5.heap.size+1:=⟨_,rfl⟩
   have hTs:=hU5.size
   rw[←hG9]at b9 ⊢
   rw[←hG8]at b8 ⊢
   have d89:G8≠G9:=by omega
   have d68:g7≠G8:=by omega
   have d69:g7≠G9:=by omega
   have d78:g8≠G8:=by omega
   have d79:g8≠G9:=by omega
   have d46:w.heap.size+1≠g7:=by omega
   have d47:w.heap.size+1≠g8:=by omega
   have d48:w.heap.size+1≠G8:=by omega
   have d49:w.heap.size+1≠G9:=by omega
   have o6:w.heap.size≤g7:=by omega
   have o7:w.heap.size≤g8:=by omega
   have o8:w.heap.size≤G8:=by omega
   have o9:w.heap.size≤G9:=by omega
   have b6y:=b6.ext hU5Y
   have b7y:=b7.ext hU5Y
   have b4y:=b4'.ext hU5Y
   have hVuy:=hVu2.ext hU5Y
   have hVvy:=hVv2.ext hU5Y
   have hEY:=hE6.trans hU5Y
   have hF1:Fit k 1:=Fit.mono (by unfold Fit;decide) hk1
   have hF0:Fit k 0:=hF1.le (by omega)
   have hFam:Fit k (a % m):=hFm.le (Nat.le_of_lt (Nat.mod_lt _ (by omega)))
   clear hY hU5Y hV5 hU5 hVu2 hVv2 b6 b7 b4' hE6 hsz8 hG8 hG9 hTs z7 z8 hW2
   go_loopw [] (fun wx=>∃(u v x y:Nat) (A6:Option Addr) (l6 c6:Nat) (A7:Option Addr) (l7 c7:Nat) (A8:Option Addr) (l8 c8:Nat) (A9:Option Addr) (l9 c9:Nat),Box wx g7 34 (.slice A6 l6 c6)∧Box wx g8 34 (.slice A7 l7 c7)∧Box wx G8 34 (.slice A8 l8 c8)∧Box wx G9 34 (.slice A9 l9 c9)∧Box wx (w.heap.size+1) 34 (.slice none 0 0)∧NatV wx (.agg #[.slice A6 l6 c6]) u∧NatV wx (.agg #[.slice A7 l7 c7]) v∧NatV wx (.agg #[.slice A8 l8 c8]) x∧NatV wx (.agg #[.slice A9 l9 c9]) y∧Fit k u∧Fit k v∧Fit k x∧Fit k y∧EuI m a u v x y∧Ext w wx) (fun wx=>natAt wx g8)
   case atStart=>exact⟨m,a % m,0,1,_,_,_,_,_,_,_,_,_,_,_,_,b6y,b7y,b8,b9,b4y,hVuy,hVvy,NatV.nil _,hV9,hFm,hFam,hF0,hF1,EuI.start m a,hEY⟩
   case round=>
    clear b6y b7y b8 b9 b4y hVuy hVvy hV9 hFam hF0 hF1 hEY
    obtain⟨u,v,x,y,A6,l6,c6,A7,l7,c7,A8,l8,c8,A9,l9,c9,b6,b7,b8,b9,b4,hVu,hVv,hVx,hVy,hFu,hFv,hFx,hFy,hI,hE⟩:=hrel
    have HI:=hide hI
    clear hI
    have q7:=b7.cell
    by_cases hv:v=0
    case pos=>
     subst hv
     obtain⟨hu1,hxb⟩:=HI.out.last hm2 hb hab
     subst hu1
     have Hxb:=hide hxb
     clear hxb
     go_wp2_with fail
     refine(zero_any _ 0 _ hVv).mono ?_
     rintro e w6 ⟨rfl,hU6⟩
     have b6':=b6.ext hU6
     have b8':=b8.ext hU6
     have b4':=b4.ext hU6
     have hE6:=hE.trans hU6
     have hVu':=hVu.ext hU6
     have hVx':=hVx.ext hU6
     clear q7 b6 b7 b8 b9 b4 hVu hVv hVx hVy hE hU6
     go_wp2_with fail
     refine name_w (fun Z hZ=>?_)
     subst hZ
     have hZd:Ext Z Z.drew:=(Upd.refl _ _).drew
     have y1:=fun y:Wd (Ext Z.drew)=>y.ok.cellv b6'.drew.cell
     refine wp_region_plan (Ext _) 2 [(false,0),(true,1)] (by kernel_rfl) (by kernel_rfl) (Upd.refl _ _) (fun hne=>?_)
     repeat (refine head_q rfl (fun K hK=>?_);have hK2:=hide hK;clear hK;go_simp;refine hK2.out _ ?_;clear hK2 K)
     refine head_l rfl ?_
     go_wp2_with (go_at_call 13;go_must (refine(new_any 1 _ (by decide)).mono ?_);rintro e v1 ⟨A20,l20,c20,rfl,hV20,hv1⟩)
     refine⟨Cls (Ext _),fun _ h=>h,⟨⟨_,hv1⟩,rfl⟩,?_⟩
     repeat (refine head_q rfl (fun K hK=>?_);have hK2:=hide hK;clear hK;go_simp;refine hK2.out _ ?_;clear hK2 K)
     clear y1
     refine head_nil ?_
     try simp only[List.drop_succ_cons,List.drop_zero]
     have b8n:=b8'.ext (hZd.trans hv1)
     have q8:=b8n.cell
     go_wp2_with fail
     refine(cmp_any _ _ 1 1 k _ (hVu'.ext (hZd.trans hv1)) hV20 hFu hFu (by omega)).mono ?_
     rw[cmpI_eq]
     rintro e v2 ⟨rfl,hv2⟩
     have hZ2:=hZd.trans (hv1.trans hv2)
     have b8m:=b8'.ext hZ2
     have q8':=b8m.cell
     clear q8 b8n
     go_wp2_with fail
     refine(mof_any _ g x m k _ (HR.out.ext (hE6.trans hZ2)) (hVx'.ext hZ2) hFx hFm (by omega)).mono ?_
     rw[Hxb.out]
     rintro e v3 ⟨A21,l21,c21,rfl,hV21,hv3⟩
     have hEf:=(hE6.trans hZ2).trans hv3
     have b4n:=b4'.ext (hZ2.trans hv3)
     have z2:=b4n.cell
     have z3:=b4n.frozen
     clear q8'
     go_wp2_with fail
     have q:=(b4n.set (.slice A21 l21 c21)).cell
     exact bodyPost_ret (v:=.tuple #[.agg #[.slice A21 l21 c21],.int .i64 0]) (by simp[results,Tryz.results159,go_sem,q]) rfl ⟨_,_,_,rfl,hV21.far z2,hEf.setCell (p:=⟨w.heap.size+1,0,none⟩) (.inr (by simp)) _⟩
    case neg=>
     go_wp2_with fail
     refine(zero_any _ v _ hVv).mono ?_
     rw[decide_eq_false hv]
     rintro e w6 ⟨rfl,hU6⟩
     have q6:=(b6.ext hU6).cell
     have q7':=(b7.ext hU6).cell
     go_wp2_with fail
     refine(div_any _ _ u v k _ (hVu.ext hU6) (hVv.ext hU6) hFu hFv (by omega) (by omega)).mono ?_
     rintro e w7 ⟨A10,l10,c10,A11,l11,c11,rfl,hV10,hV11,hU7⟩
     go_wp2_with fail
     refine name_w (fun W7 hW7=>?_)
     have hU67:=hU6.trans hU7
     have hUW:Ext wr W7:=by rw[hW7];exact(hU67.alloc _).alloc _
     have b10:Box W7 w7.heap.size 34 (.slice A10 l10 c10):=by rw[hW7];exact(Box.new _ _ _).alloc _
     have b11:Box W7 (w7.heap.size+1) 34 (.slice A11 l11 c11):=by rw[hW7];exact Box.new_at (by simp)
     have hVq:NatV W7 (.agg #[.slice A10 l10 c10]) (u / v):=by rw[hW7];exact hV10.ext (((Upd.refl _ _).alloc _).alloc _)
     have hVr:NatV W7 (.agg #[.slice A11 l11 c11]) (u % v):=by rw[hW7];exact hV11.ext (((Upd.refl _ _).alloc _).alloc _)
     have s7:=hU67.size
     have e6:g7<w7.heap.size:=Nat.lt_of_lt_of_le b6.lt s7
     have e7:g8<w7.heap.size:=Nat.lt_of_lt_of_le b7.lt s7
     have e8:G8<w7.heap.size:=Nat.lt_of_lt_of_le b8.lt s7
     have e9:G9<w7.heap.size:=Nat.lt_of_lt_of_le b9.lt s7
     have b6w:=b6.ext hUW
     have b7w:=b7.ext hUW
     have b8w:=b8.ext hUW
     have b9w:=b9.ext hUW
     have b4w:=b4.ext hUW
     have hVvw:=hVv.ext hUW
     have hVxw:=hVx.ext hUW
     have hVyw:=hVy.ext hUW
     have hEw:=hE.trans hUW
     have Hmw:=hide (natAt_eq b7.cell hVv)
     obtain⟨r7,hr7⟩:∃x,x=w7.heap.size:=⟨_,rfl⟩
     rw[←hr7]at b10 b11 e6 e7 e8 e9 ⊢
     clear hW7 hr7 s7 q6 q7 q7' b6 b7 b8 b9 b4 hVu hVv hVx hVy hE hU6 hU7 hU67 hUW hV10 hV11
     have k7':=fun x:Wd (Upd (only g7) W7.drew)=>(x.ok.cell (p:=⟨g8,0,none⟩) b7w.drew.lt (fun h=>h78 (show g8=g7 from h).symm)).trans b7w.drew.cell
     have k11:=fun x:Wd (Upd (only g7) W7.drew)=>(x.ok.cell (p:=⟨r7+1,0,none⟩) b11.drew.lt (fun h=>by have h':r7+1=g7:=h;omega)).trans b11.drew.cell
     refine wp_region_plan (Upd (only g7) _) 3 [(false,0),(false,1),(true,2)] (by kernel_rfl) (by kernel_rfl) (Upd.refl _ _) (fun hne=>?_)
     repeat (refine head_q rfl (fun K hK=>?_);have hK2:=hide hK;clear hK;go_simp;refine hK2.out _ ?_;clear hK2 K)
     clear k7' k11
     refine head_l rfl ?_
     have m1:=b6w.drew.cell
     have m2:=b6w.drew.frozen
     go_wp2_with fail
     refine⟨Cls (Upd (only g7) W7.drew),fun _ h=>h,⟨⟨_,(Upd.refl (only g7) W7.drew).setCell (p:=⟨g7,0,none⟩) (.inl rfl) _⟩,rfl⟩,?_⟩
     refine head_nil ?_
     try simp only[List.drop_succ_cons,List.drop_zero]
     clear m1 m2
     have b7s:=b7w.far (p:=⟨g7,0,none⟩) (show g8≠g7 from Ne.symm h78) (.slice A7 l7 c7)
     have m3:=b7s.cell
     have m4:=b7s.frozen
     go_wp2_with fail
     refine name_w (fun V hV=>?_)
     have b6v:Box V g7 34 (.slice A7 l7 c7):=by rw[hV];exact(b6w.set _).far (show g7≠g8 from h78) _
     have b7v:Box V g8 34 (.slice A11 l11 c11):=by rw[hV];exact b7s.set _
     have b8v:Box V G8 34 (.slice A8 l8 c8):=by rw[hV];exact(b8w.far (show G8≠g7 from Ne.symm d68) _).far (show G8≠g8 from Ne.symm d78) _
     have b9v:Box V G9 34 (.slice A9 l9 c9):=by rw[hV];exact(b9w.far (show G9≠g7 from Ne.symm d69) _).far (show G9≠g8 from Ne.symm d79) _
     have b4v:Box V (w.heap.size+1) 34 (.slice none 0 0):=by rw[hV];exact(b4w.far (show w.heap.size+1≠g7 from d46) _).far (show w.heap.size+1≠g8 from d47) _
     have b10v:Box V r7 34 (.slice A10 l10 c10):=by rw[hV];exact(b10.far (show r7≠g7 by omega) _).far (show r7≠g8 by omega) _
     have x7:=b6w.cell
     have x8:=b7s.cell
     have hVvv:NatV V (.agg #[.slice A7 l7 c7]) v:=by rw[hV];exact((hVvw.far (v:=.slice A7 l7 c7) x7).far (v:=.slice A11 l11 c11) x8).ext (Upd.refl _ _).drew
     have hVrv:NatV V (.agg #[.slice A11 l11 c11]) (u % v):=by rw[hV];exact((hVr.far (v:=.slice A7 l7 c7) x7).far (v:=.slice A11 l11 c11) x8).ext (Upd.refl _ _).drew
     have hVxv:NatV V (.agg #[.slice A8 l8 c8]) x:=by rw[hV];exact((hVxw.far (v:=.slice A7 l7 c7) x7).far (v:=.slice A11 l11 c11) x8).ext (Upd.refl _ _).drew
     have hVyv:NatV V (.agg #[.slice A9 l9 c9]) y:=by rw[hV];exact((hVyw.far (v:=.slice A7 l7 c7) x7).far (v:=.slice A11 l11 c11) x8).ext (Upd.refl _ _).drew
     have hVqv:NatV V (.agg #[.slice A10 l10 c10]) (u / v):=by rw[hV];exact((hVq.far (v:=.slice A7 l7 c7) x7).far (v:=.slice A11 l11 c11) x8).ext (Upd.refl _ _).drew
     have hEV:Ext w V:=by rw[hV];exact((hEw.setCell (p:=⟨g7,0,none⟩) (.inr o6) _).setCell (p:=⟨g8,0,none⟩) (.inr o7) _).drew
     clear hV m3 m4 x7 x8 b7s b6w b7w b8w b9w b4w b10 b11 hVvw hVr hVxw hVyw hVq hEw
     have hFq:Fit k (u / v):=hFu.le (Nat.div_le_self _ _)
     have hFqm:Fit k (u / v*y % m):=hFm.le (Nat.le_of_lt (Nat.mod_lt _ (by omega)))
     have hVd:Ext V V.drew:=(Upd.refl _ _).drew
     have y1:=fun y:Wd (Ext V.drew)=>y.ok.cellv b9v.drew.cell
     have y2:=fun y:Wd (Ext V.drew)=>y.ok.cellv b8v.drew.cell
     have y3:=fun y:Wd (Ext V.drew)=>y.ok.cellv b10v.drew.cell
     obtain⟨zz,hzz⟩:∃z,z=subm x (u / v*y % m) m:=⟨_,rfl⟩
     have hzs:(zz+u / v*y) % m=x % m:=by rw[hzz];exact subm_spec x (u / v) y m (by omega)
     have hFz:Fit k zz:=by rw[hzz];unfold subm;exact hFm.le (Nat.le_of_lt (Nat.mod_lt _ (by omega)))
     have hI2:=HI.out.step hzs
     have HI2:=hide hI2
     have Hzz:=hide hzz
     have hFr:Fit k (u % v):=hFu.le (Nat.mod_le _ _)
     have hdec:u % v<v:=Nat.mod_lt _ (by omega)
     clear hzz hzs hI2
     refine wp_region_plan (Ext _) 8 [(false,0),(false,1),(false,2),(false,3),(false,4),(false,5),(true,6),(true,7)] (by kernel_rfl) (by kernel_rfl) (Upd.refl _ _) (fun hne=>?_)
     repeat (refine head_q rfl (fun K hK=>?_);have hK2:=hide hK;clear hK;go_simp;refine hK2.out _ ?_;clear hK2 K)
     refine head_l rfl ?_
     go_wp2_with (go_at_call 62;go_must (refine(mmul_any _ _ g (u / v) y m k _ (HR.out.ext (hEV.trans hVd)) (hVqv.ext hVd) (hVyv.ext hVd) hFq hFy hFm (by omega)).mono ?_);rintro e v1 ⟨A20,l20,c20,rfl,hV20,hv1⟩)
     refine⟨Cls (Ext _),fun _ h=>h,⟨⟨_,hv1⟩,rfl⟩,?_⟩
     repeat (refine head_q rfl (fun K hK=>?_);have hK2:=hide hK;clear hK;go_simp;refine hK2.out _ ?_;clear hK2 K)
     refine head_l rfl ?_
     go_wp2_with (go_at_call 184;go_must (refine(msub_any _ _ g x (u / v*y % m) m k _ (HR.out.ext ((hEV.trans hVd).trans hv1)) (hVxv.ext (hVd.trans hv1)) hV20 hFx hFqm hFm (by omega)).mono ?_);rw[←Hzz.out];rintro e v2 ⟨A21,l21,c21,rfl,hV21,hv2⟩;replace hv2:=hv1.trans hv2)
     refine⟨Cls (Ext _),fun _ h=>h,⟨⟨_,hv2⟩,rfl⟩,?_⟩
     repeat (refine head_q rfl (fun K hK=>?_);have hK2:=hide hK;clear hK;go_simp;refine hK2.out _ ?_;clear hK2 K)
     clear y1 y2 y3
     refine head_nil ?_
     try simp only[List.drop_succ_cons,List.drop_zero]
     have hZ:=hVd.trans hv2
     have b6z:=b6v.ext hZ
     have b7z:=b7v.ext hZ
     have b8z:=b8v.ext hZ
     have b9z:=b9v.ext hZ
     have b4z:=b4v.ext hZ
     have hVvz:=hVvv.ext hZ
     have hVrz:=hVrv.ext hZ
     have hVyz:=hVyv.ext hZ
     have hEz:=hEV.trans hZ
     clear hZ hv1 hv2 hVd hV20 b6v b7v b8v b9v b4v b10v hVvv hVrv hVxv hVyv hVqv hEV
     have n1:=b8z.cell
     have n2:=b8z.frozen
     have b9s:=b9z.far (p:=⟨G8,0,none⟩) (show G9≠G8 from Ne.symm d89) (.slice A9 l9 c9)
     have n3:=b9s.cell
     have n4:=b9s.frozen
     go_wp2_with fail
     go_roundw
     case rel=>exact⟨v,u % v,y,zz,_,_,_,_,_,_,_,_,_,_,_,_,(b6z.far (show g7≠G8 from d68) _).far (show g7≠G9 from d69) _,(b7z.far (show g8≠G8 from d78) _).far (show g8≠G9 from d79) _,(b8z.set _).far (show G8≠G9 from d89) _,b9s.set _,(b4z.far (show w.heap.size+1≠G8 from d48) _).far (show w.heap.size+1≠G9 from d49) _,(hVvz.far (v:=.slice A9 l9 c9) n1).far (v:=.slice A21 l21 c21) n3,(hVrz.far (v:=.slice A9 l9 c9) n1).far (v:=.slice A21 l21 c21) n3,(hVyz.far (v:=.slice A9 l9 c9) n1).far (v:=.slice A21 l21 c21) n3,(hV21.far (v:=.slice A9 l9 c9) n1).far (v:=.slice A21 l21 c21) n3,hFv,hFr,hFy,hFz,HI2.out,(hEz.setCell (p:=⟨G8,0,none⟩) (.inr o8) _).setCell (p:=⟨G9,0,none⟩) (.inr o9) _⟩
     case measure=>
      have e1:=natAt_eq ((b7z.far (p:=⟨G8,0,none⟩) (show g8≠G8 from d78) (.slice A9 l9 c9)).far (p:=⟨G9,0,none⟩) (show g8≠G9 from d79) (.slice A21 l21 c21)).cell ((hVrz.far (v:=.slice A9 l9 c9) n1).far (v:=.slice A21 l21 c21) n3)
      rw[e1,Hmw.out]
      exact hdec
end Go.Proofs.YtdohmikoafkniaaGreat
