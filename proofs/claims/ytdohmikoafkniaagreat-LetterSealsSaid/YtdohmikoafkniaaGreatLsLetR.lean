/- The document's letters, walked: four, side, Name, key, Seal, Open. -/
import Derived.Test.YtdohmikoafkniaaGreatLsLetF
import Derived.Test.YtdohmikoafkniaaGreatLsBoxR
import Derived.Test.YtdohmikoafkniaaGreatLsSgnR
import Derived.Test.YtdohmikoafkniaaGreatLsMacX
namespace Go.Proofs.YtdohmikoafkniaaGreat
set_option linter.unusedSimpArgs false
set_option linter.unusedVariables false
open Go.RowKit
open Nt Sha Strm
attribute [local go_sem] steady steadyUpon Cls same_cell anyW
attribute [local irreducible] wpHead wpTree wpHeadR Sha.sum bxO bxS keyB
set_option maxRecDepth 100000 in
set_option maxHeartbeats 1000000 in
theorem lrfour_any (m:Nat) (w:World) (hm:m≤1048576):Calls Tryz.prog 144 #[.int .i64 (m:Int)] w (RetS w 4 (fourB m)):=by
 go_enter Tryz.func144,Tryz.ntmps144
 go_wp2_with fail
 go_ret
 refine⟨some ⟨w.heap.size,0,none⟩,4,rfl,?_,(Upd.refl _ _).alloc _⟩
 rw[fourB_cells m hm]
 exact Own.lit by8 w 5 (fourB m) (Nat.le_refl _) (show(4:Nat)≤maxLen by unfold maxLen;decide)
set_option maxRecDepth 100000 in
set_option maxHeartbeats 2000000 in
theorem lrname_any (w:World) (s f t:Nat) (hs:s≤1048576) (hf:f≤1048576) (ht:t≤1048576):Calls Tryz.prog 84 #[.int .i64 (s:Int),.int .i64 (f:Int),.int .i64 (t:Int)] w (RetS w 18 (nameB s f t)):=by
 have hc1:=fun w=>Lib.run_convert_bytes_const (P:=Tryz.prog) w 23 5 #[.int .u8 108,.int .u8 101,.int .u8 116,.int .u8 116,.int .u8 101,.int .u8 114] 6 6 Tryz.under_bs Tryz.under8
 have hEa:Ext w (w.alloc (.cells #[.int .u8 108,.int .u8 101,.int .u8 116,.int .u8 116,.int .u8 101,.int .u8 114] 5 (6,7))):=(Upd.refl _ _).alloc _
 have hS:Pt.ok (w.alloc (.cells #[.int .u8 108,.int .u8 101,.int .u8 116,.int .u8 116,.int .u8 101,.int .u8 114] 5 (6,7))) ⟨some ⟨w.heap.size,0,none⟩,6,6,letB⟩:=⟨Sl.mark by8 w 5 (6,7) letB,rfl,Nat.le_refl _,by simp[maxLen]⟩
 have HS:=hide hS
 have HE:=hide hEa
 clear hS hEa
 go_enter Tryz.func84,Tryz.ntmps84
 go_wp2_with fail
 refine(lrfour_any s _ hs).mono ?_
 rintro e w1 ⟨A1,c1,rfl,hO1,hU1⟩
 have hp1:=hide (Own.mpt hO1 (rfl:(fourB s).length=4))
 clear hO1
 go_wp2_with fail
 refine(lrfour_any f _ hf).mono ?_
 rintro e w2 ⟨A2,c2,rfl,hO2,hU2⟩
 have hp2:=hide (Own.mpt hO2 (rfl:(fourB f).length=4))
 clear hO2
 go_wp2_with fail
 refine(lrfour_any t _ ht).mono ?_
 rintro e w3 ⟨A3,c3,rfl,hO3,hU3⟩
 have hp3:=hide (Own.mpt hO3 (rfl:(fourB t).length=4))
 clear hO3
 go_wp2_with fail
 refine name_c (fun W hW=>?_)
 have h1W:Ext w3 W:=by rw[hW];exact(Upd.refl _ _).alloc _
 have hPs:Pts W (some ⟨w3.heap.size,0,none⟩) [⟨some ⟨w.heap.size,0,none⟩,6,6,letB⟩,⟨A1,4,c1,fourB s⟩,⟨A2,4,c2,fourB f⟩,⟨A3,4,c3,fourB t⟩]:=by
  refine⟨by rw[hW];exact Sl.new Pt.val w3 23 _,fun i hi=>?_⟩
  match i,hi with
  | 0,_=>exact HS.out.ext (((hU1.trans hU2).trans hU3).trans h1W)
  | 1,_=>exact hp1.out.ext ((hU2.trans hU3).trans h1W)
  | 2,_=>exact hp2.out.ext (hU3.trans h1W)
  | 3,_=>exact hp3.out.ext h1W
 have hfl:flat [⟨some ⟨w.heap.size,0,none⟩,6,6,letB⟩,⟨A1,4,c1,fourB s⟩,⟨A2,4,c2,fourB f⟩,⟨A3,4,c3,fourB t⟩]=nameB s f t:=by unfold flat nameB;simp only[List.flatMap_cons,List.flatMap_nil,List.append_nil,List.append_assoc]
 have hE1:=HE.out.trans (((hU1.trans hU2).trans hU3).trans h1W)
 clear hW
 refine(join_any _ 4 4 _ 18 W hPs rfl (by rw[hfl];rfl) (by omega) (by unfold maxLen;omega)).mono ?_
 rw[hfl]
 rintro e w4 ⟨A4,c4,rfl,hO4,hU4⟩
 have hG:=hE1.trans hU4
 have hO:=hO4.mono (B':=w.heap.size) hE1.size
 clear hPs hfl hO4
 go_wp2_with fail
 go_ret
 exact⟨A4,c4,rfl,hO,hG⟩
theorem bxO_len {key nonce side b x:List (BitVec 8)} {q:Nat} (h:bxO key nonce side b=some x) (hb:b.length=q+16):x.length=q:=by
 unfold bxO at h
 split at h
 · injection h with h
   rw[←h,xors_length,List.length_take]
   omega
 · cases h
theorem Ows.pt {w:World} {B:Nat} {e:TypeId} {A:Option Addr} {c n:Nat} {bs:List (BitVec 8)} (h:Ows w B e A c (bs.map by8)) (hn:bs.length=n):bs.length=n∧n≤c∧c≤maxLen∧Sl by8 w A bs:=
 ⟨hn,by have:=h.1;rw[List.length_map,hn]at this;exact this,h.2.1,h.sl⟩
section
variable (P Q G H : Nat) (w : World) (vg vs : Value)
set_option maxRecDepth 100000 in
set_option maxHeartbeats 2000000 in
theorem lrkey_any (s:Nat) (F:Option Addr) (l f:Nat) (info:List (BitVec 8)) (h:RGrpV w vg P Q G H) (hVs:RefV w vs s) (hI:Pt.ok w ⟨F,l,f,info⟩) (hs:memB P Q s=true) (hFP:blen P≤1024) (hl:l≤1000000):
 Calls Tryz.prog 86 #[vg,vs,.slice F l f] w (MRetO w 32 (keyB P Q s info)):=by
 have hG:=h
 obtain⟨A1,l1,c1,A2,l2,c2,A3,l3,c3,A4,l4,c4,rfl, -⟩:=h
 obtain⟨A5,l5,c5,xs5,rfl, -⟩:=hVs.open_
 have HG:=hide hG
 have HI:=hide hI
 have hfs:blen s≤1000000:=Nat.le_trans (blen_mono (Nat.le_of_lt (memB_lt hs).2.1)) (by omega)
 have hbs:bytelen s≤byteSz P:=byteSz_mono (Nat.le_of_lt (memB_lt hs).2.1)
 have hszP:byteSz P≤1000:=by unfold byteSz;omega
 obtain⟨zp,hzp⟩:∃z,z=byteSz P:=⟨_,rfl⟩
 obtain⟨mb,hmb⟩:∃z,z=memBy P Q s:=⟨_,rfl⟩
 have hmt:toB s (byteSz P)=mb:=by rw[hmb];unfold memBy;rw[if_pos hs]
 have hml:mb.length=zp:=by rw[←hmt,hzp,toB_length]
 obtain⟨R,hR⟩:∃R,R=keyB P Q s info:=⟨_,rfl⟩
 have hRe:Mac.expand (Mac.tag sacB mb) info 32=R:=by rw[hR,hmb];unfold keyB;rfl
 rw[←hR]
 rw[←hzp]at hszP
 have Hmt:=hide hmt
 have Hml:=hide hml
 have Hzp:=hide hzp
 have HRe:=hide hRe
 clear hG hI hmb hmt hml hzp hR hRe
 obtain⟨W0,hW0⟩:∃W0,W0=w.alloc (.cells #[.slice A1 l1 c1,.slice A2 l2 c2,.slice A3 l3 c3,.slice A4 l4 c4] 30):=⟨_,rfl⟩
 have b3:Blk W0 w.heap.size 30 #[.slice A1 l1 c1,.slice A2 l2 c2,.slice A3 l3 c3,.slice A4 l4 c4]:=by rw[hW0];exact Blk.new _ _ _
 have hW0s:W0.heap.size=w.heap.size+1:=by rw[hW0];simp
 have hE0:Ext w W0:=by rw[hW0];exact(Upd.refl _ w).alloc _
 have hc2:=Joins.run_convert_bytes_const_at (P:=Tryz.prog) W0 23 5 #[.int .u8 115,.int .u8 97,.int .u8 99,.int .u8 114,.int .u8 105,.int .u8 115,.int .u8 116,.int .u8 121] 8 8 (w.heap.size+1) hW0s.symm Tryz.under_bs Tryz.under8
 have hEa:Ext W0 (W0.alloc (.cells #[.int .u8 115,.int .u8 97,.int .u8 99,.int .u8 114,.int .u8 105,.int .u8 115,.int .u8 116,.int .u8 121] 5 (8,9))):=(Upd.refl _ _).alloc _
 have hS:Sl by8 (W0.alloc (.cells #[.int .u8 115,.int .u8 97,.int .u8 99,.int .u8 114,.int .u8 105,.int .u8 115,.int .u8 116,.int .u8 121] 5 (8,9))) (some ⟨w.heap.size+1,0,none⟩) sacB:=by
  have:=Sl.mark by8 W0 5 (8,9) sacB
  rw[hW0s]at this
  exact this
 have q0:=(b3.ext hEa).at 0 rfl
 have q1:=(b3.ext hEa).at 1 rfl
 have q2:=(b3.ext hEa).at 2 rfl
 have q3:=(b3.ext hEa).at 3 rfl
 rw[hW0]at hc2 q0 q1 q2 q3
 have HS:=hide hS
 have HE:=hide (hE0.trans hEa)
 clear hS hEa
 go_enter Tryz.func86,Tryz.ntmps86
 go_wp2_with fail
 rw[←hW0]
 clear q0 q1 q2 q3 hc2
 refine(rgbytes_any _ _ P Q G H _ s (HG.out.ext HE.out) (hVs.ext HE.out) (by omega) hfs hbs).mono ?_
 rw[Hmt.out,←Hzp.out]
 rintro e w1 ⟨A6,c6,rfl,hO1,hU1⟩
 have hp1:=hide (Own.mpt hO1 Hml.out)
 have hE1:=HE.out.trans hU1
 clear hO1
 go_wp2_with fail
 refine(rderive_any (some ⟨w.heap.size+1,0,none⟩) 8 8 sacB A6 zp c6 mb F l f info 32 _ (HS.out.ext hU1) rfl (by omega) (by unfold maxLen;omega) (by omega) hp1.out.1 hp1.out.2.1 hp1.out.2.2.1 hp1.out.2.2.2 (by omega) (HI.out.ext hE1).1 HI.out.2.1 HI.out.2.2.1 HI.out.2.2.2 hl (by omega)).mono ?_
 rw[HRe.out]
 rintro e w2 ⟨A2',c2',rfl,hO2,hU2⟩
 have hG:=hE1.trans hU2
 have hO:=hO2.low (B':=w.heap.size) hE1.size
 clear hO2
 go_wp2_with fail
 go_ret
 exact⟨A2',c2',rfl,hO,hG⟩
set_option maxRecDepth 100000 in
set_option maxHeartbeats 4000000 in
theorem lrseal_any (sh s f t:Nat) (D:Option Addr) (n d:Nat) (b:List (BitVec 8)) (h:RGrpV w vg P Q G H) (hVs:RefV w vs sh) (hm:memB P Q sh=true) (hs:s≤1048576) (hf:f≤1048576) (ht:t≤1048576) (hb:Pt.ok w ⟨D,n,d,b⟩) (hn:n≤1000) (hFP:blen P≤1024):
 Calls Tryz.prog 29 #[vg,vs,.int .i64 (s:Int),.int .i64 (f:Int),.int .i64 (t:Int),.slice D n d] w (RetSl w (n+16) (bxS (keyB P Q sh (nameB s f t)) non12 (nameB s f t) b)):=by
 obtain⟨X0,hX0⟩:∃q,q=bxS (keyB P Q sh (nameB s f t)) non12 (nameB s f t) b:=⟨_,rfl⟩
 have hXl:X0.length=n+16:=by rw[hX0,bxS_length,hb.2.1]
 rw[←hX0]
 have HX:=hide hX0
 have HXl:=hide hXl
 clear hX0 hXl
 have hG:=h
 obtain⟨A1,l1,c1,A2,l2,c2,A3,l3,c3,A4,l4,c4,rfl, -⟩:=h
 obtain⟨A5,l5,c5,xs5,rfl, -⟩:=hVs.open_
 have HG:=hide hG
 have Hb:=hide hb
 have Hm:=hide hm
 obtain⟨kb,hkb⟩:∃k,k=keyB P Q sh (nameB s f t):=⟨_,rfl⟩
 have hkl:kb.length=32:=by rw[hkb];unfold keyB;exact expand_32 _ _
 have Hkl:=hide hkl
 try rw[←hkb]
 have Hkb:=hide hkb
 clear hG hb hm hkb hkl
 go_enter Tryz.func29,Tryz.ntmps29
 go_wp2_with fail
 refine name_c (fun W hW=>?_)
 have b6:Blk W w.heap.size 30 #[.slice A1 l1 c1,.slice A2 l2 c2,.slice A3 l3 c3,.slice A4 l4 c4]:=by rw[hW];exact Blk.new _ _ _
 have hE:Ext w W:=by rw[hW];exact(Upd.refl _ w).alloc _
 clear hW
 refine(lrname_any W s f t hs hf ht).mono ?_
 rintro e w1 ⟨A8,c8,rfl,hO1,hU1⟩
 have hp1:=hide (Own.mpt hO1 (nameB_length s f t))
 have b6':=b6.ext hU1
 have hE1:=hE.trans hU1
 clear hO1 hE hU1 b6
 go_wp2_with fail
 refine name_w (fun X hX=>?_)
 subst hX
 have y0:=b6'.at 0 rfl
 have y1:=b6'.at 1 rfl
 have y2:=b6'.at 2 rfl
 have y3:=b6'.at 3 rfl
 refine wp_region_mono 8 (fun i=>([MF.eq (.agg #[.slice A1 l1 c1,.slice A2 l2 c2,.slice A3 l3 c3,.slice A4 l4 c4]),MF.eq (.slice A5 l5 c5),MF.eq (.slice A8 18 c8),bytesM (32) (kb),bytesM (12) (non12),MF.eq (.slice A8 18 c8),MF.eq (.slice D n d),bytesM (n+16) (X0)]:List MF).getD i (MF.eq undef)) (by kernel_rfl) (by kernel_rfl) ?_ ?_
 · intro i hi
   match i,hi with
   | 0,_=>
     intro u wx o ho hE hw
     injection (ho:some _=some o)with ho
     subst ho
     have hEx:Ext X wx:=hE.undrew
     simp only[fr,dstOf]
     go_simp
     have z0:=hEx.cellv y0
     have z1:=hEx.cellv y1
     have z2:=hEx.cellv y2
     have z3:=hEx.cellv y3
     go_wp2
     first | exact Upd.refl _ _ | exact⟨trivial,Upd.refl _ _⟩ | exact⟨_,rfl,Upd.refl _ _,rfl⟩ | exact⟨Upd.refl _ _,rfl⟩
   | 1,_=>
     intro u wx o ho hE hw
     injection (ho:some _=some o)with ho
     subst ho
     have hEx:Ext X wx:=hE.undrew
     simp only[fr,dstOf]
     go_simp
     go_wp2
     first | exact Upd.refl _ _ | exact⟨_,rfl,Upd.refl _ _,rfl⟩ | exact⟨Upd.refl _ _,rfl⟩
   | 2,_=>
     intro u wx o ho hE hw
     injection (ho:some _=some o)with ho
     subst ho
     have hEx:Ext X wx:=hE.undrew
     simp only[fr,dstOf]
     go_simp
     go_wp2
     first | exact Upd.refl _ _ | exact⟨_,rfl,Upd.refl _ _,rfl⟩ | exact⟨Upd.refl _ _,rfl⟩
   | 3,_=>
     intro u wx o ho hE hw
     injection (ho:some _=some o)with ho
     subst ho
     have hEx:Ext X wx:=hE.undrew
     have f0:u 0=.agg #[.slice A1 l1 c1,.slice A2 l2 c2,.slice A3 l3 c3,.slice A4 l4 c4]:=hw 0 (by omega) (by kernel_rfl)
     have f1:u 1=.slice A5 l5 c5:=hw 1 (by omega) (by kernel_rfl)
     have f2:u 2=.slice A8 18 c8:=hw 2 (by omega) (by kernel_rfl)
     simp only[fr,dstOf]
     go_simp
     go_wp2_with fail
     refine(lrkey_any P Q G H _ _ _ sh A8 18 c8 (nameB s f t) (HG.out.ext (hE1.trans hEx)) (hVs.ext (hE1.trans hEx)) (hp1.out.ext hEx) Hm.out hFP (by omega)).mono ?_
     rintro e wn ⟨A9,c9,rfl,hO,hU⟩
     go_wp2_with fail
     first | exact⟨_,rfl,hU,bytesM_mk ⟨_,_,rfl,Ows.pt (by rw[Hkb.out];exact hO) Hkl.out⟩⟩ | exact⟨hU,bytesM_mk ⟨_,_,rfl,Ows.pt (by rw[Hkb.out];exact hO) Hkl.out⟩⟩
   | 4,_=>
     intro u wx o ho hE hw
     injection (ho:some _=some o)with ho
     subst ho
     have hEx:Ext X wx:=hE.undrew
     simp only[fr,dstOf]
     go_simp
     go_wp2_with (at_make;go_must (refine wpList_mk _ _ _ Tryz.el8 rfl rfl 12 rfl rfl rfl rfl (by omega) (by unfold maxLen;omega) by8 rfl rfl (B:=wx.heap.size) (Nat.le_refl _) ?_);rintro g4 w4 hO4 rfl hU4;have HU4:=hide hU4;clear hU4)
     first | exact⟨_,rfl,HU4.out,bytesM_mk ⟨_,_,rfl,Own.pt hO4 rfl⟩⟩ | exact⟨HU4.out,bytesM_mk ⟨_,_,rfl,Own.pt hO4 rfl⟩⟩
   | 5,_=>
     intro u wx o ho hE hw
     injection (ho:some _=some o)with ho
     subst ho
     have hEx:Ext X wx:=hE.undrew
     simp only[fr,dstOf]
     go_simp
     go_wp2
     first | exact Upd.refl _ _ | exact⟨_,rfl,Upd.refl _ _,rfl⟩ | exact⟨Upd.refl _ _,rfl⟩
   | 6,_=>
     intro u wx o ho hE hw
     injection (ho:some _=some o)with ho
     subst ho
     have hEx:Ext X wx:=hE.undrew
     simp only[fr,dstOf]
     go_simp
     go_wp2
     first | exact Upd.refl _ _ | exact⟨_,rfl,Upd.refl _ _,rfl⟩ | exact⟨Upd.refl _ _,rfl⟩
   | 7,_=>
     intro u wx o ho hE hw
     injection (ho:some _=some o)with ho
     subst ho
     have hEx:Ext X wx:=hE.undrew
     have hQ3:=bytesM_out (hw 3 (by omega) (by kernel_rfl))
     cases hQ3;rename_i aA3 hQ3
     cases hQ3;rename_i aC3 hQ3
     have f3:=hQ3.1
     have aN3:=hQ3.2.1
     have aX3:=hQ3.2.2.1
     have aM3:=hQ3.2.2.2.1
     have hV3:=hQ3.2.2.2.2
     clear hQ3
     have hQ4:=bytesM_out (hw 4 (by omega) (by kernel_rfl))
     cases hQ4;rename_i aA4 hQ4
     cases hQ4;rename_i aC4 hQ4
     have f4:=hQ4.1
     have aN4:=hQ4.2.1
     have aX4:=hQ4.2.2.1
     have aM4:=hQ4.2.2.2.1
     have hV4:=hQ4.2.2.2.2
     clear hQ4
     have f5:u 5=.slice A8 18 c8:=hw 5 (by omega) (by kernel_rfl)
     have f6:u 6=.slice D n d:=hw 6 (by omega) (by kernel_rfl)
     simp only[fr,dstOf]
     go_simp
     go_wp2_with fail
     refine(rseal_any aA3 aA4 A8 D aC3 aC4 18 c8 n d kb non12 (nameB s f t) b _ ⟨aN3,aN4,aX3,aX4,hV3,hV4,hp1.out.2.1,by omega,(hp1.out.ext hEx).1,Hb.out.2.1,hn,(Hb.out.ext (hE1.trans hEx)).1⟩ hp1.out.2.2.1 hp1.out.2.2.2).mono ?_
     rintro e wn ⟨A9,c9,rfl,hcp,hS,hU⟩
     go_wp2_with fail
     first | exact⟨_,rfl,hU,bytesM_mk ⟨_,_,rfl,HXl.out,hcp.1,hcp.2,by rw[HX.out,←Hkb.out];exact hS⟩⟩ | exact⟨hU,bytesM_mk ⟨_,_,rfl,HXl.out,hcp.1,hcp.2,by rw[HX.out,←Hkb.out];exact hS⟩⟩
   | k+8,h=>exact absurd h (by omega)
 · intro u wx hE hJ
   have hEx:Ext X wx:=hE.undrew
   have f0:u 0=.agg #[.slice A1 l1 c1,.slice A2 l2 c2,.slice A3 l3 c3,.slice A4 l4 c4]:=hJ 0 (by omega)
   have f1:u 1=.slice A5 l5 c5:=hJ 1 (by omega)
   have f2:u 2=.slice A8 18 c8:=hJ 2 (by omega)
   have hQ3:=bytesM_out (hJ 3 (by omega))
   cases hQ3;rename_i aA3 hQ3
   cases hQ3;rename_i aC3 hQ3
   have f3:=hQ3.1
   have aN3:=hQ3.2.1
   have aX3:=hQ3.2.2.1
   have aM3:=hQ3.2.2.2.1
   have hV3:=hQ3.2.2.2.2
   clear hQ3
   have hQ4:=bytesM_out (hJ 4 (by omega))
   cases hQ4;rename_i aA4 hQ4
   cases hQ4;rename_i aC4 hQ4
   have f4:=hQ4.1
   have aN4:=hQ4.2.1
   have aX4:=hQ4.2.2.1
   have aM4:=hQ4.2.2.2.1
   have hV4:=hQ4.2.2.2.2
   clear hQ4
   have f5:u 5=.slice A8 18 c8:=hJ 5 (by omega)
   have f6:u 6=.slice D n d:=hJ 6 (by omega)
   have hQ7:=bytesM_out (hJ 7 (by omega))
   cases hQ7;rename_i aA7 hQ7
   cases hQ7;rename_i aC7 hQ7
   have f7:=hQ7.1
   have aN7:=hQ7.2.1
   have aX7:=hQ7.2.2.1
   have aM7:=hQ7.2.2.2.1
   have hV7:=hQ7.2.2.2.2
   clear hQ7
   clear hJ
   simp only[fr,dstOf]
   go_simp
   try simp only[List.drop_succ_cons,List.drop_zero]
   have hGG:=hE1.trans hEx
   clear y0 y1 y2 y3
   go_wp2_with fail
   go_ret
   exact⟨aA7,aC7,rfl,⟨aX7,aM7⟩,hV7,hGG⟩
def opnB (P Q sh s f t:Nat) (b:List (BitVec 8)):List (BitVec 8) × Int:=if b.length<16 then ([],3) else match bxO (keyB P Q sh (nameB s f t)) non12 (nameB s f t) b with | some x=>(x,0) | none=>([],7)
def RetLo (w:World) (r:List (BitVec 8) × Int) (e:Ending) (w':World):Prop:=∃A n c,e=.returned (.tuple #[.slice A n c,.int .i64 r.2])∧Sl by8 w' A r.1∧r.1.length=n∧Ext w w'
theorem lopen_all (gr k:Nat) (A0 D:Option Addr) (l0 c0 sh s f t n d:Nat) (b:List (BitVec 8)) (h:GrpV w gr P Q G H) (h0:NatV w (.agg #[.slice A0 l0 c0]) sh) (hFs:Fit k sh) (hP:Fit k P) (hQ:Fit k Q) (hk:k≤50000) (hk1:1≤k) (hm:memB P Q sh=true) (hs:s≤1048576) (hf:f≤1048576) (ht:t≤1048576) (hb:Pt.ok w ⟨D,n,d,b⟩) (hn:n≤1000):
 Calls Tryz.prog 26 #[.pointer (some ⟨gr,0,none⟩),.agg #[.slice A0 l0 c0],.int .i64 (s:Int),.int .i64 (f:Int),.int .i64 (t:Int),.slice D n d] w (RetLo w (opnB P Q sh s f t b)):=by
 have hl:b.length=n:=hb.2.1
 by_cases h16:n<16
 · unfold opnB
   rw[if_pos (by omega)]
   exact(lopen_short gr P Q G H k w A0 D l0 c0 sh s f t n d h h0 hFs hP hQ hk hk1 hm hs hf ht h16).mono fun e w' ⟨h1,h2⟩=>⟨none,0,0,h1,Sl.nil,rfl,h2⟩
 · obtain⟨q,rfl⟩:∃q,n=q+16:=⟨n - 16,by omega⟩
   unfold opnB
   rw[if_neg (by omega)]
   have hc:=lopen_any gr P Q G H k w A0 D l0 c0 sh s f t q d b h h0 hFs hP hQ hk hk1 hm hs hf ht hb hn
   generalize bxO (keyB P Q sh (nameB s f t)) non12 (nameB s f t) b=o at hc ⊢
   cases o with
   | none=>exact hc.mono fun e w' ⟨h1,h2⟩=>⟨none,0,0,h1,Sl.nil,rfl,h2⟩
   | some x=>exact hc.mono fun e w' ⟨A,c,h1,hl,hO,h2⟩=>⟨A,q,c,h1,hO.sl,hl.symm,h2⟩
set_option maxRecDepth 100000 in
set_option maxHeartbeats 4000000 in
theorem lropen_all (sh s f t:Nat) (D:Option Addr) (n d:Nat) (b:List (BitVec 8)) (h:RGrpV w vg P Q G H) (hVs:RefV w vs sh) (hm:memB P Q sh=true) (hs:s≤1048576) (hf:f≤1048576) (ht:t≤1048576) (hb:Pt.ok w ⟨D,n,d,b⟩) (hn:n≤1000) (hFP:blen P≤1024):
 Calls Tryz.prog 28 #[vg,vs,.int .i64 (s:Int),.int .i64 (f:Int),.int .i64 (t:Int),.slice D n d] w (RetLo w (opnB P Q sh s f t b)):=by
 obtain⟨R,hR⟩:∃R,R=opnB P Q sh s f t b:=⟨_,rfl⟩
 rw[←hR]
 have HR:=hide hR
 clear hR
 have hG:=h
 obtain⟨A1,l1,c1,A2,l2,c2,A3,l3,c3,A4,l4,c4,rfl, -⟩:=h
 obtain⟨A5,l5,c5,xs5,rfl, -⟩:=hVs.open_
 have HG:=hide hG
 have Hb:=hide hb
 have Hm:=hide hm
 obtain⟨kb,hkb⟩:∃k,k=keyB P Q sh (nameB s f t):=⟨_,rfl⟩
 have hkl:kb.length=32:=by rw[hkb];unfold keyB;exact expand_32 _ _
 have Hkl:=hide hkl
 try rw[←hkb]
 have Hkb:=hide hkb
 clear hG hb hm hkb hkl
 go_enter Tryz.func28,Tryz.ntmps28
 go_wp2_with fail
 refine name_c (fun W hW=>?_)
 have b6:Blk W w.heap.size 30 #[.slice A1 l1 c1,.slice A2 l2 c2,.slice A3 l3 c3,.slice A4 l4 c4]:=by rw[hW];exact Blk.new _ _ _
 have hE:Ext w W:=by rw[hW];exact(Upd.refl _ w).alloc _
 clear hW
 refine(lrname_any W s f t hs hf ht).mono ?_
 rintro e w1 ⟨A8,c8,rfl,hO1,hU1⟩
 have hp1:=hide (Own.mpt hO1 (nameB_length s f t))
 have b6':=b6.ext hU1
 have hE1:=hE.trans hU1
 clear hO1 hE hU1 b6
 go_wp2_with fail
 refine name_w (fun X hX=>?_)
 subst hX
 have y0:=b6'.at 0 rfl
 have y1:=b6'.at 1 rfl
 have y2:=b6'.at 2 rfl
 have y3:=b6'.at 3 rfl
 have Hbx:=Hb.out.ext hE1
 have hbl:b.length=n:=Hb.out.2.1
 have hpx:=hp1.out
 have hcall:∀(aA3 aA4:Option Addr) (aC3 aC4:Nat) (w5:World),(kb.length=32∧32≤aC3∧aC3≤maxLen∧Sl by8 w5 aA3 kb)→(non12.length=12∧12≤aC4∧aC4≤maxLen∧Sl by8 w5 aA4 non12)→Ext X w5→Calls Tryz.prog 85 #[.slice aA3 32 aC3,.slice aA4 12 aC4,.slice A8 18 c8,.slice D n d] w5 (RetLo w5 R):=by
  intro aA3 aA4 aC3 aC4 w5 hk3 hk4 hE5
  by_cases h16:n<16
  · have hRe:R=([],3):=by rw[HR.out];unfold opnB;rw[if_pos (by omega)]
    rw[hRe]
    exact(ropen_short aA3 aA4 A8 D aC3 aC4 18 c8 n d w5 h16).mono fun e w' ⟨h1,h2⟩=>⟨none,0,0,h1,Sl.nil,rfl,h2⟩
  · obtain⟨q,rfl⟩:∃q,n=q+16:=⟨n - 16,by omega⟩
    have hc:=ropen_any aA3 aA4 A8 D aC3 aC4 18 c8 q d kb non12 (nameB s f t) b w5 ⟨hk3.1,hk4.1,hk3.2.1,hk4.2.1,hk3.2.2.2,hk4.2.2.2,hpx.2.1,by omega,hpx.1.ext hE5,Hbx.2.1,hn,Hbx.1.ext hE5⟩ Hbx.2.2.1 hpx.2.2.1 hpx.2.2.2 Hbx.2.2.2
    have hRe:R=(match bxO kb non12 (nameB s f t) b with | some x=>(x,0) | none=>([],7)):=by rw[HR.out,Hkb.out];unfold opnB;rw[if_neg (by omega)]
    have hlo:∀x,bxO kb non12 (nameB s f t) b=some x→x.length=q:=fun x hx=>bxO_len hx Hbx.2.1
    rw[hRe]
    generalize bxO kb non12 (nameB s f t) b=o at hc hlo ⊢
    cases o with
    | none=>exact hc.mono fun e w' ⟨h1,h2⟩=>⟨none,0,0,h1,Sl.nil,rfl,h2⟩
    | some x=>exact hc.mono fun e w' ⟨A,c,h1,hO,h2⟩=>⟨A,q,c,h1,hO,hlo x rfl,h2⟩
 have Hcall:=hide hcall
 clear hcall Hbx
 obtain⟨ro,er⟩:=R
 have hXd:Ext X X.drew:=(Upd.refl _ _).drew
 have h0:Ext X.drew X.drew:=Upd.refl _ _
 have z0:=fun y:Wd (Ext X.drew)=>y.ok.cellv (hXd.cellv y0)
 have z1:=fun y:Wd (Ext X.drew)=>y.ok.cellv (hXd.cellv y1)
 have z2:=fun y:Wd (Ext X.drew)=>y.ok.cellv (hXd.cellv y2)
 have z3:=fun y:Wd (Ext X.drew)=>y.ok.cellv (hXd.cellv y3)
 clear y0 y1 y2 y3
 refine wp_region_tree (Ext X.drew) 11 (.q 0 (.q 1 (.q 2 (.q 5 (.q 6 (.two 3 4 (.l 4 (.l 7 (.q 8 (.q 9 (.q 10 .done))))) (.l 3 (.l 7 (.q 8 (.q 9 (.q 10 .done))))))))))) (by kernel_rfl) (by kernel_rfl) (Upd.refl _ _) (fun hne=>?_)
 repeat (refine tree_q rfl (fun K hK=>?_);go_simp;refine hK _ ?_;clear hK K)
 refine tree_two rfl rfl ?_ ?_
 · skip
   go_wp2_with (go_at_call 86;go_must (refine(lrkey_any P Q G H _ _ _ sh A8 18 c8 (nameB s f t) (HG.out.ext (hE1.trans (hXd.trans h0))) (hVs.ext (hE1.trans (hXd.trans h0))) (hp1.out.ext (hXd.trans h0)) Hm.out hFP (by omega)).mono ?_);rw[←Hkb.out];rintro e u3 ⟨A9,c9,rfl,hO9,hu3⟩;have hx3:=h0.trans hu3;have hk3:=Ows.pt hO9 Hkl.out;clear hO9)
   refine⟨_,fun _ h=>h,⟨⟨_,hx3⟩,rfl⟩,?_⟩
   repeat (refine tree_q rfl (fun K hK=>?_);go_simp;refine hK _ ?_;clear hK K)
   refine tree_l rfl ?_
   refine wpList_mk _ _ _ Tryz.el8 rfl rfl 12 rfl rfl rfl rfl (by omega) (by unfold maxLen;omega) by8 rfl rfl (B:=(u3).heap.size) (Nat.le_refl _) ?_
   rintro g4 u4 hO4 rfl hu4
   have hx4:=Upd.trans hx3 hu4
   have hk4:=Own.pt hO4 (rfl:non12.length=12)
   clear hO4
   refine⟨_,fun _ h=>h,⟨⟨_,hx4⟩,rfl⟩,?_⟩
   repeat (refine tree_q rfl (fun K hK=>?_);go_simp;refine hK _ ?_;clear hK K)
   refine tree_l rfl ?_
   go_wp2_with (go_at_call 85;go_must (refine(Hcall.out A9 _ c9 _ _ ⟨hk3.1,hk3.2.1,hk3.2.2.1,(hk3.2.2.2.ext hu4)⟩ ⟨hk4.1,hk4.2.1,hk4.2.2.1,hk4.2.2.2⟩ (hXd.trans hx4)).mono ?_);rintro e w5 ⟨A5',n5,c5',rfl,hS5,hl5,hu5⟩;have hx5:=hx4.trans hu5)
   refine⟨_,fun _ h=>h,⟨⟨_,hx5⟩,rfl⟩,?_⟩
   repeat (refine tree_q rfl (fun K hK=>?_);go_simp;refine hK _ ?_;clear hK K)
   refine tree_done ?_
   try simp only[List.drop_succ_cons,List.drop_zero]
   have hGG:=hE1.trans (hXd.trans hx5)
   clear z0 z1 z2 z3
   go_wp2_with fail
   refine bodyPost_ret (v:=.tuple #[.slice A5' n5 c5',.int .i64 er]) (by simp[results,Tryz.results28,go_sem]) rfl ⟨A5',n5,c5',rfl,hS5,hl5,hGG⟩
 · skip
   refine wpList_mk _ _ _ Tryz.el8 rfl rfl 12 rfl rfl rfl rfl (by omega) (by unfold maxLen;omega) by8 rfl rfl (B:=(X.drew).heap.size) (Nat.le_refl _) ?_
   rintro g4 u4 hO4 rfl hu4
   have hx4:=Upd.trans h0 hu4
   have hk4:=Own.pt hO4 (rfl:non12.length=12)
   clear hO4
   refine⟨_,fun _ h=>h,⟨⟨_,hx4⟩,rfl⟩,?_⟩
   repeat (refine tree_q rfl (fun K hK=>?_);go_simp;refine hK _ ?_;clear hK K)
   refine tree_l rfl ?_
   go_wp2_with (go_at_call 86;go_must (refine(lrkey_any P Q G H _ _ _ sh A8 18 c8 (nameB s f t) (HG.out.ext (hE1.trans (hXd.trans hx4))) (hVs.ext (hE1.trans (hXd.trans hx4))) (hp1.out.ext (hXd.trans hx4)) Hm.out hFP (by omega)).mono ?_);rw[←Hkb.out];rintro e u3 ⟨A9,c9,rfl,hO9,hu3⟩;have hx3:=hx4.trans hu3;have hk3:=Ows.pt hO9 Hkl.out;clear hO9)
   refine⟨_,fun _ h=>h,⟨⟨_,hx3⟩,rfl⟩,?_⟩
   repeat (refine tree_q rfl (fun K hK=>?_);go_simp;refine hK _ ?_;clear hK K)
   refine tree_l rfl ?_
   go_wp2_with (go_at_call 85;go_must (refine(Hcall.out A9 _ c9 _ _ ⟨hk3.1,hk3.2.1,hk3.2.2.1,hk3.2.2.2⟩ ⟨hk4.1,hk4.2.1,hk4.2.2.1,(hk4.2.2.2.ext hu3)⟩ (hXd.trans hx3)).mono ?_);rintro e w5 ⟨A5',n5,c5',rfl,hS5,hl5,hu5⟩;have hx5:=hx3.trans hu5)
   refine⟨_,fun _ h=>h,⟨⟨_,hx5⟩,rfl⟩,?_⟩
   repeat (refine tree_q rfl (fun K hK=>?_);go_simp;refine hK _ ?_;clear hK K)
   refine tree_done ?_
   try simp only[List.drop_succ_cons,List.drop_zero]
   have hGG:=hE1.trans (hXd.trans hx5)
   clear z0 z1 z2 z3
   go_wp2_with fail
   refine bodyPost_ret (v:=.tuple #[.slice A5' n5 c5',.int .i64 er]) (by simp[results,Tryz.results28,go_sem]) rfl ⟨A5',n5,c5',rfl,hS5,hl5,hGG⟩
end
end Go.Proofs.YtdohmikoafkniaaGreat
