/- The laws of equal exponents: lives. -/
import Derived.Test.YtdohmikoafkniaaGreatDpDlqD
import Derived.Test.YtdohmikoafkniaaGreatDpDlqE
import Derived.Test.YtdohmikoafkniaaGreatDpSgnL
namespace Go.Proofs.YtdohmikoafkniaaGreat
set_option linter.unusedSimpArgs false
set_option linter.unusedVariables false
open Go.RowKit
open Nt Sha
attribute [local go_sem] steady steadyUpon Cls same_cell
attribute [local irreducible] wpHead wpTree sum chalOf ansN
theorem dlmH :memB (grP 0) (grQ 0) (grH 0)=true:=by unfold memB;rw[pow_is 70 (by decide)];decide+kernel
set_option maxRecDepth 100000 in
set_option maxHeartbeats 4000000 in
theorem dlives_any (w:World):Calls Tryz.prog 8 #[] w fun e w'=>e=.returned (.bool true)∧Ext w w':=by
  have hc1:=fun w=>Lib.run_convert_bytes_const (P:=Tryz.prog) w 23 5 #[.int .u8 109] 1 1 Tryz.under_bs Tryz.under8
  have hP:Fit 32 (grP 0):=(fit_grP 0).mono (by omega)
  have hQ:Fit 32 (grQ 0):=(fit_grQ 0).mono (by omega)
  have hGf:Fit 32 (grG 0):=(fit_grG 0).mono (by omega)
  have hHf:Fit 32 (grH 0):=(fit_grH 0).mono (by omega)
  have hQ7:7<grQ 0:=by decide
  have hz:=sz0
  have hmG:=gMem 0 (by omega)
  have hmH:=dlmH
  obtain⟨P,hPe⟩:∃P,P=grP 0:=⟨_,rfl⟩
  obtain⟨Q,hQe⟩:∃Q,Q=grQ 0:=⟨_,rfl⟩
  obtain⟨G,hGe⟩:∃G,G=grG 0:=⟨_,rfl⟩
  obtain⟨H,hHe⟩:∃H,H=grH 0:=⟨_,rfl⟩
  have hgok:GOk P Q G:=by rw[hPe,hQe,hGe];exact gok 0 (by omega)
  rw[←hPe,←hQe,←hGe]at hmG
  rw[←hPe,←hQe,←hHe]at hmH
  rw[←hPe]at hP
  rw[←hQe]at hQ hQ7 hz
  rw[←hGe]at hGf
  rw[←hHe]at hHf
  have HPe:=hide hPe
  have HQe:=hide hQe
  have HGe:=hide hGe
  have HHe:=hide hHe
  have Hz:=hide hz
  have HmG:=hide hmG
  have HmH:=hide hmH
  clear hPe hQe hGe hHe hz hmG hmH
  have hP2:=hgok.two
  have hQ64:=hgok.sml
  have hF7:Fit 32 7:=fit1 (by decide) (by omega)
  have hFy:Fit 32 (G^7 % P):=hP.le (Nat.le_of_lt (Nat.mod_lt _ (by omega)))
  have hFz:Fit 32 (H^7 % P):=hP.le (Nat.le_of_lt (Nat.mod_lt _ (by omega)))
  obtain⟨y,hy⟩:∃y,y=G^7 % P:=⟨_,rfl⟩
  obtain⟨z,hz⟩:∃z,z=H^7 % P:=⟨_,rfl⟩
  obtain⟨prf,hprf⟩:∃p,p=pvB P Q G H 7 msgM:=⟨_,rfl⟩
  have hgood:dverB P Q G H y z msgM prf=true:=by rw[hy,hz,hprf];exact proved HmG.out HmH.out hP2 hQ64 7 msgM
  rw[←hy]at hFy
  rw[←hz]at hFz
  have Hy:=hide hy
  have Hzz:=hide hz
  have Hprf:=hide hprf
  have Hgood:=hide hgood
  clear hy hz hprf hgood
  go_enter Tryz.func8,Tryz.ntmps8
  go_wp2_with fail
  refine(ggroup_any 0 0 (by omega) w (fun w'=>gnums0_any 0 none 0 0 w' gnil0)).mono ?_
  rintro e w1 ⟨gr,rfl,hG,hU1⟩
  rw[←HPe.out,←HQe.out,←HGe.out,←HHe.out]at hG
  go_wp2_with fail
  refine(gG_any gr P Q G H w1 hG).mono ?_
  rintro e w2 ⟨A2,l2,c2,rfl,hV2,hU2⟩
  go_wp2_with fail
  refine(gH_any gr P Q G H w2 (hG.ext hU2)).mono ?_
  rintro e w3 ⟨A3,l3,c3,rfl,hV3,hU3⟩
  go_wp2_with fail
  refine(new_any 7 _ (by decide)).mono ?_
  rintro e w4 ⟨A4,l4,c4,rfl,hV4,hU4⟩
  have hEa:Ext w4 (w4.alloc (.cells #[.int .u8 109] 5 (1,2))):=(Upd.refl _ _).alloc _
  have P0:Pt.ok (w4.alloc (.cells #[.int .u8 109] 5 (1,2))) ⟨some ⟨w4.heap.size,0,none⟩,1,1,msgM⟩:=⟨Sl.mark by8 w4 5 (1,2) msgM,rfl,Nat.le_refl _,by simp[maxLen]⟩
  have HP0:=hide P0
  have HEa:=hide hEa
  clear P0 hEa
  have hU24:=hU3.trans hU4
  go_wp2_with fail
  refine(dprove_any gr P Q G H 32 _ A2 A3 A4 (some ⟨w4.heap.size,0,none⟩) l2 c2 l3 c3 l4 c4 1 1 G H 7 msgM (hG.ext ((hU2.trans hU24).trans HEa.out)) (hV2.ext (hU24.trans HEa.out)) (hV3.ext (hU4.trans HEa.out)) (hV4.ext HEa.out) HP0.out hGf hHf hF7 hP hQ hP2 hQ64 (by omega) (by omega) (by omega) HmG.out HmH.out hQ7).mono ?_
  rw[←Hy.out,←Hzz.out,←Hprf.out,Hz.out]
  rintro e w5 ⟨B0,m0,d0,B1,m1,d1,B2,m2,d2,B3,m3,d3,A5,c5,rfl,k0,k1,k2,k3,hl5,hO5,hU5⟩
  have hE5:=(hU1.trans ((hU2.trans hU24).trans HEa.out)).trans hU5
  have hG5:=hG.ext (((hU2.trans hU24).trans HEa.out).trans hU5)
  have hpt:=hide (Own.pt hO5 hl5)
  clear hO5 hl5 hU1 hU2 hU24 HEa HP0 hU3 hU4 hV2 hV3 hV4 hG hU5 hF7
  obtain⟨V,hV⟩:∃V,V=w5.alloc (.cells #[.slice B0 m0 d0,.slice B1 m1 d1,.slice B2 m2 d2,.slice B3 m3 d3] 37):=⟨_,rfl⟩
  have hB:Blk V w5.heap.size 37 #[.slice B0 m0 d0,.slice B1 m1 d1,.slice B2 m2 d2,.slice B3 m3 d3]:=by rw[hV];exact Blk.new _ _ _
  have hEV:Ext w5 V:=by rw[hV];exact(Upd.refl _ _).alloc _
  have hVs:V.heap.size=w5.heap.size+1:=by rw[hV];simp
  have hEm:Ext V (V.alloc (.cells #[.int .u8 109] 5 (1,2))):=(Upd.refl _ _).alloc _
  have P1:Pt.ok (V.alloc (.cells #[.int .u8 109] 5 (1,2))) ⟨some ⟨w5.heap.size+1,0,none⟩,1,1,msgM⟩:=by
   have:=Sl.mark by8 V 5 (1,2) msgM
   rw[hVs]at this
   exact⟨this,rfl,Nat.le_refl _,by simp[maxLen]⟩
  have hc2:=Joins.run_convert_bytes_const_at (P:=Tryz.prog) V 23 5 #[.int .u8 109] 1 1 (w5.heap.size+1) hVs.symm Tryz.under_bs Tryz.under8
  have q0:=hB.at 0 rfl
  have q1:=hB.at 1 rfl
  have q2:=hB.at 2 rfl
  have q3:=hB.at 3 rfl
  rw[hV]at hc2 q0 q1 q2 q3
  have HPt:=hide (show Pt.ok V ⟨A5,2,c5,prf⟩ from⟨hpt.out.2.2.2.ext hEV,hpt.out.1,hpt.out.2.1,hpt.out.2.2.1⟩)
  have HP1:=hide P1
  have HEm:=hide hEm
  clear P1 hEm hpt
  go_wp2_with fail
  rw[←hV]
  have hEf:=hEV.trans HEm.out
  refine(dver_any gr P Q G H 32 _ B0 B1 B2 B3 (some ⟨w5.heap.size+1,0,none⟩) A5 m0 d0 m1 d1 m2 d2 m3 d3 1 1 2 c5 G H y z msgM prf (hG5.ext hEf) (k0.ext hEf) (k1.ext hEf) (k2.ext hEf) (k3.ext hEf) HP1.out (HPt.out.ext HEm.out) hGf hHf hFy hFz hP hQ hP2 hQ64 (by rw[HQe.out];exact szQ 0) (by omega) (by omega) (by omega)).mono ?_
  rw[Hgood.out]
  rintro e w6 ⟨rfl,hU6⟩
  have hEE:=(hE5.trans hEf).trans hU6
  go_wp2_with fail
  go_ret
  exact⟨rfl,hEE⟩
end Go.Proofs.YtdohmikoafkniaaGreat
