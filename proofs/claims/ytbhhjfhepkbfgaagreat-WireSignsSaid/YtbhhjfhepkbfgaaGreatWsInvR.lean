/- The document's inverse, walked. -/
import Derived.Test.YtbhhjfhepkbfgaaGreatWsSgnS
namespace Go.Proofs.YtbhhjfhepkbfgaaGreat
set_option linter.unusedSimpArgs false
set_option linter.unusedVariables false
open Go.RowKit
open Nt
attribute [local go_sem] steady steadyUpon Cls same_cell
attribute [local irreducible] wpHead wpTree
theorem ref_nil (w:World) (A:Option Addr) (c:Nat) (hm:c≤maxLen):RefV w (.slice A 0 c) 0:=NumS.cut (xs:=[]) Sl.nil (Nat.le_refl 0) (Nat.zero_le c) hm rfl (.inl rfl)
set_option maxRecDepth 100000 in
set_option maxHeartbeats 4000000 in
theorem rinv_any (va vm:Value) (a b m:Nat) (w:World) (hVa:RefV w va a) (hVm:RefV w vm m) (hFa:blen a≤1024) (hFm:blen m≤1024) (hm2:2≤m) (hb:b<m) (hab:a*b % m=1):
 Calls Tryz.prog 88 #[va,vm] w fun e w'=>∃A l c,e=.returned (.tuple #[.slice A l c,.bool true])∧RefV w' (.slice A l c) b∧Ext w w':=by
 obtain⟨A1,l1,c1,xs,rfl, -⟩:=hVa.open_
 obtain⟨A2,l2,c2,ys,rfl, -⟩:=hVm.open_
 go_enter Tryz.func88,Tryz.ntmps88
 go_wp2_with fail
 refine(rmof_any _ _ a m 1024 _ hVa hVm hFa hFm (by omega) (by omega)).mono ?_
 rintro e w1 ⟨A3,l3,c3,rfl,hR3,hU1⟩
 go_wp2_with fail
 refine(rsmall_any 1 _ (by decide)).mono ?_
 rintro e w2 ⟨A4,l4,c4,rfl,hR4,hU2⟩
 have hX1:Ext w1 w2:=((Upd.refl _ w1).alloc (.cells #[] 4)).trans hU2
 have hU:=hU1.trans hX1
 have hbm:∀y,y≤m→blen y≤1024:=fun y hy=>Nat.le_trans (blen_mono hy) hFm
 have Hbm:=hide hbm
 have hF1:blen 1≤1024:=by decide
 have hF0:blen 0≤1024:=by decide
 have hFam:blen (a % m)≤1024:=hbm _ (Nat.le_of_lt (Nat.mod_lt _ (by omega)))
 have hR3':=hR3.ext hX1
 have hRm:=hVm.ext hU
 clear hU1 hU2 hX1 hR3 hbm
 go_wp2_with fail
 go_loopw [6,7,8,9,10,11,12] (fun su sv sx sy _ _ _ wx=>∃(u v x y:Nat) (A6:Option Addr) (l6 c6:Nat) (A7:Option Addr) (l7 c7:Nat) (A8:Option Addr) (l8 c8:Nat) (A9:Option Addr) (l9 c9:Nat),su=.slice A6 l6 c6∧sv=.slice A7 l7 c7∧sx=.slice A8 l8 c8∧sy=.slice A9 l9 c9∧RefV wx (.slice A6 l6 c6) u∧RefV wx (.slice A7 l7 c7) v∧RefV wx (.slice A8 l8 c8) x∧RefV wx (.slice A9 l9 c9) y∧blen u≤1024∧blen v≤1024∧blen x≤1024∧blen y≤1024∧EuI m a u v x y∧Ext w wx) (fun _ sv _ _ _ _ _ wx=>refOf wx sv)
 case atStart=>exact⟨m,a % m,0,1,_,_,_,_,_,_,_,_,_,_,_,_,rfl,rfl,rfl,rfl,hRm,hR3',ref_nil _ _ _ (by simp[maxLen]),hR4,hFm,hFam,hF0,hF1,EuI.start m a,hU⟩
 case round=>
  obtain⟨u,v,x,y,A6,l6,c6,A7,l7,c7,A8,l8,c8,A9,l9,c9,rfl,rfl,rfl,rfl,hVu,hVv,hVx,hVy,hFu,hFv,hFx,hFy,hI,hE⟩:=hrel
  have HI:=hide hI
  clear hI
  have hl7:=hVv.len
  by_cases hv:v=0
  case pos=>
   subst hv
   obtain rfl:l7=0:=hl7
   obtain⟨hu1,hxb⟩:=HI.out.last hm2 hb hab
   subst hu1
   have hl6:l6=1:=hVu.len.trans (by decide)
   subst hl6
   have Hxb:=hide hxb
   clear hxb
   go_wp2_with fail
   refine(rmof_any _ _ x m 1024 _ hVx (hVm.ext hE) hFx hFm (by omega) (by omega)).mono ?_
   rw[Hxb.out]
   rintro e v1 ⟨A20,l20,c20,rfl,hR20,hU20⟩
   have hEf:=hE.trans hU20
   go_wp2_with fail
   refine bodyPost_ret (v:=.tuple #[.slice A20 l20 c20,.bool true]) ?_ rfl ⟨_,_,_,rfl,hR20,hEf⟩
   simp[results,Tryz.results88,go_sem]
  case neg=>
   have hlp:0<l7:=by
    rw[hl7]
    rcases Nat.eq_zero_or_pos (blen v)with h0 | h0
    · exact absurd (blen_eq_zero.1 h0) hv
    · exact h0
   have hlpI:(0:Int)<(l7:Int):=by omega
   clear hl7
   go_wp2_with fail
   refine(rdiv_any _ _ u v 1024 _ hVu hVv hFu hFv (by omega) (by omega)).mono ?_
   rintro e v1 ⟨A10,l10,c10,A11,l11,c11,rfl,hRq,hRr,hU1⟩
   have hFq:blen (u / v)≤1024:=Nat.le_trans (blen_mono (Nat.div_le_self _ _)) hFu
   have hFr:blen (u % v)≤1024:=Nat.le_trans (blen_mono (Nat.mod_le _ _)) hFu
   have hmQ:u / v*y % m<m:=Nat.mod_lt _ (by omega)
   have hFqm:blen (u / v*y % m)≤1024:=Hbm.out _ (Nat.le_of_lt hmQ)
   have hE1:=hE.trans hU1
   obtain⟨zz,hzz⟩:∃z,z=subm x (u / v*y % m) m:=⟨_,rfl⟩
   have hzs:(zz+u / v*y) % m=x % m:=by rw[hzz];exact subm_spec x (u / v) y m (by omega)
   have hFz:blen zz≤1024:=by rw[hzz];unfold subm;exact Hbm.out _ (Nat.le_of_lt (Nat.mod_lt _ (by omega)))
   have HI2:=hide (HI.out.step hzs)
   have Hzz:=hide hzz
   have Hme:=hide (refOf_eq hVv)
   have hdec:u % v<v:=Nat.mod_lt _ (by omega)
   clear hzz hzs
   go_wp2_with fail
   refine(rmmul_any _ _ _ (u / v) y m 1024 _ hRq (hVy.ext hU1) (hVm.ext hE1) hFq hFy hFm (by omega) (by omega)).mono ?_
   rintro e v2 ⟨A12,l12,c12,rfl,hRm2,hU2⟩
   go_wp2_with fail
   refine(rmsub_any _ _ _ x (u / v*y % m) m 1024 _ (hVx.ext (hU1.trans hU2)) hRm2 (hVm.ext (hE1.trans hU2)) hFx hFqm hFm (by omega) (by omega)).mono ?_
   rw[←Hzz.out]
   rintro e v3 ⟨A13,l13,c13,rfl,hRz,hU3⟩
   have hU23:=hU2.trans hU3
   have hVv3:=hVv.ext (hU1.trans hU23)
   have hVy3:=hVy.ext (hU1.trans hU23)
   have hRr3:=hRr.ext hU23
   have hE3:=hE1.trans hU23
   clear hVu hVv hVx hVy hE hU1 hU2 hU3 hU23 hRq hRr hRm2 hE1
   go_wp2_with fail
   go_roundw
   case rel=>exact⟨v,u % v,y,zz,_,_,_,_,_,_,_,_,_,_,_,_,rfl,rfl,rfl,rfl,hVv3,hRr3,hVy3,hRz,hFv,hFr,hFy,hFz,HI2.out,hE3⟩
   case measure=>
    rw[refOf_eq hRr3,Hme.out]
    exact hdec
set_option maxRecDepth 100000 in
set_option maxHeartbeats 1000000 in
theorem rgmul_any (w:World) (v:Value) (P Q G H:Nat) (va vb:Value) (a b:Nat) (h:RGrpV w v P Q G H) (hVa:RefV w va a) (hVb:RefV w vb b) (hFP:blen P≤1024) (hFa:blen a≤1024) (hFb:blen b≤1024) (hP0:0<P):
 Calls Tryz.prog 52 #[v,va,vb] w (RetR w (a*b % P)):=by
 obtain⟨A1,l1,c1,A2,l2,c2,A3,l3,c3,A4,l4,c4,rfl,h1,h2,h3,h4⟩:=h
 obtain⟨A5,l5,c5,xs,rfl, -⟩:=hVa.open_
 obtain⟨A6,l6,c6,ys,rfl, -⟩:=hVb.open_
 go_enter Tryz.func52,Tryz.ntmps52
 have b1:Blk (w.alloc (.cells #[.slice A1 l1 c1,.slice A2 l2 c2,.slice A3 l3 c3,.slice A4 l4 c4] 34)) w.heap.size 34 #[.slice A1 l1 c1,.slice A2 l2 c2,.slice A3 l3 c3,.slice A4 l4 c4]:=Blk.new _ _ _
 have q0:=b1.at 0 rfl
 have hE:Ext w (w.alloc (.cells #[.slice A1 l1 c1,.slice A2 l2 c2,.slice A3 l3 c3,.slice A4 l4 c4] 34)):=(Upd.refl _ w).alloc _
 go_wp2_with fail
 refine(rmmul_any _ _ _ a b P 1024 _ (hVa.ext hE) (hVb.ext hE) (h1.ext hE) hFa hFb hFP (by omega) hP0).mono ?_
 rintro e w1 ⟨A7,l7,c7,rfl,hV7,hU7⟩
 have hEE:=hE.trans hU7
 go_wp2_with fail
 go_ret
 exact⟨_,_,_,rfl,hV7,hEE⟩
set_option maxRecDepth 100000 in
set_option maxHeartbeats 1000000 in
theorem rginv_any (w:World) (v:Value) (P Q G H:Nat) (va:Value) (a b:Nat) (h:RGrpV w v P Q G H) (hVa:RefV w va a) (hFP:blen P≤1024) (hFa:blen a≤1024) (hP2:2≤P) (hb:b<P) (hab:a*b % P=1):
 Calls Tryz.prog 54 #[v,va] w (RetR w b):=by
 obtain⟨A1,l1,c1,A2,l2,c2,A3,l3,c3,A4,l4,c4,rfl,h1,h2,h3,h4⟩:=h
 obtain⟨A5,l5,c5,xs,rfl, -⟩:=hVa.open_
 go_enter Tryz.func54,Tryz.ntmps54
 have b1:Blk (w.alloc (.cells #[.slice A1 l1 c1,.slice A2 l2 c2,.slice A3 l3 c3,.slice A4 l4 c4] 34)) w.heap.size 34 #[.slice A1 l1 c1,.slice A2 l2 c2,.slice A3 l3 c3,.slice A4 l4 c4]:=Blk.new _ _ _
 have q0:=b1.at 0 rfl
 have hE:Ext w (w.alloc (.cells #[.slice A1 l1 c1,.slice A2 l2 c2,.slice A3 l3 c3,.slice A4 l4 c4] 34)):=(Upd.refl _ w).alloc _
 go_wp2_with fail
 refine(rinv_any _ _ a b P _ (hVa.ext hE) (h1.ext hE) hFa hFP hP2 hb hab).mono ?_
 rintro e w1 ⟨A7,l7,c7,rfl,hV7,hU7⟩
 have hEE:=hE.trans hU7
 go_wp2_with fail
 go_ret
 exact⟨_,_,_,rfl,hV7,hEE⟩
end Go.Proofs.YtbhhjfhepkbfgaaGreat
