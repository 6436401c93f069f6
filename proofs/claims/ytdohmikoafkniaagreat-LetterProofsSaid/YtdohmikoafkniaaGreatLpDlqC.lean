/- Equal exponents, walked: Verify. -/
import Derived.Test.YtdohmikoafkniaaGreatLpDlqB
namespace Go.Proofs.YtdohmikoafkniaaGreat
set_option linter.unusedSimpArgs false
set_option linter.unusedVariables false
open Go.RowKit
open Nt Sha
attribute [local go_sem] steady steadyUpon Cls same_cell anyW
attribute [local irreducible] wpHead wpTree wpHeadR sum chalOf
theorem natL4 {w:World} {b:Nat} {t:TypeId} {A0 A1 A2 A3:Option Addr} {l0 c0 n0 l1 c1 n1 l2 c2 n2 l3 c3 n3:Nat} (hb:Blk w b t #[.slice A0 l0 c0,.slice A1 l1 c1,.slice A2 l2 c2,.slice A3 l3 c3])
 (h0:NatV w (.agg #[.slice A0 l0 c0]) n0) (h1:NatV w (.agg #[.slice A1 l1 c1]) n1) (h2:NatV w (.agg #[.slice A2 l2 c2]) n2) (h3:NatV w (.agg #[.slice A3 l3 c3]) n3):NatL w (some ⟨b,0,none⟩) [n0,n1,n2,n3]:=by
 refine⟨[⟨A0,l0,c0⟩,⟨A1,l1,c1⟩,⟨A2,l2,c2⟩,⟨A3,l3,c3⟩],rfl,fun j hj=>?_,fun j hj=>?_⟩
 · match j,hj with
   | 0,_=>exact⟨b,0,rfl,hb.at 0 rfl⟩
   | 1,_=>exact⟨b,0,rfl,hb.at 1 rfl⟩
   | 2,_=>exact⟨b,0,rfl,hb.at 2 rfl⟩
   | 3,_=>exact⟨b,0,rfl,hb.at 3 rfl⟩
 · match j,hj with
   | 0,_=>exact h0
   | 1,_=>exact h1
   | 2,_=>exact h2
   | 3,_=>exact h3
theorem inv_of' {P Q y:Nat} (hy:y^Q % P=1) (hP:2≤P) (hQ:64<Q):y^(Q - 1) % P<P∧y*(y^(Q - 1) % P) % P=1:=by
 refine⟨Nat.mod_lt _ (by omega),?_⟩
 rw[Nat.mul_mod,Nat.mod_mod,←Nat.mul_mod,Nat.mul_comm,←Nat.pow_succ,show(Q - 1).succ=Q by omega]
 exact hy
def opn (P Q a y s ask:Nat):Nat:=a^s*(y^(Q - 1) % P)^ask % P
def dverB (P Q a b y z:Nat) (side prf:List (BitVec 8)):Bool:=
 [a,b,y,z].all (memB P Q) && (decide (prf.length=2*byteSz Q) && (decide (ofB (prf.take (byteSz Q))<Q) && (decide (ofB (prf.drop (byteSz Q))<Q) &&
  decide (ansN P Q [a,b,y,z,opn P Q a y (ofB (prf.drop (byteSz Q))) (ofB (prf.take (byteSz Q))),opn P Q b z (ofB (prf.drop (byteSz Q))) (ofB (prf.take (byteSz Q)))] side=ofB (prf.take (byteSz Q))))))
theorem ansN_lt {P Q:Nat} {ns:List Nat} {side:List (BitVec 8)} (h:0<Q):ansN P Q ns side<Q:=by
 unfold ansN
 split
 · exact chalOf_lt h
 · exact h
section
variable (gr P Q G H k : Nat) (w : World)
set_option maxRecDepth 100000 in
set_option maxHeartbeats 8000000 in
theorem dver_any (A0 A1 A2 A3 AS D:Option Addr) (l0 c0 l1 c1 l2 c2 l3 c3 n c m d:Nat) (a b y z:Nat) (side prf:List (BitVec 8)) (h:GrpV w gr P Q G H) (h0:NatV w (.agg #[.slice A0 l0 c0]) a) (h1:NatV w (.agg #[.slice A1 l1 c1]) b) (h2:NatV w (.agg #[.slice A2 l2 c2]) y) (h3:NatV w (.agg #[.slice A3 l3 c3]) z)
 (hM:Pt.ok w ⟨AS,n,c,side⟩) (hS:Pt.ok w ⟨D,m,d,prf⟩) (hFa:Fit k a) (hFb:Fit k b) (hFy:Fit k y) (hFz:Fit k z) (hP:Fit k P) (hQ:Fit k Q) (hP2:2≤P) (hQ64:64<Q) (hz128:byteSz Q≤128) (hk:k≤50000) (hk32:32≤k) (hn:n≤1000000):
 Calls Tryz.prog 50 #[.pointer (some ⟨gr,0,none⟩),.agg #[.slice A0 l0 c0,.slice A1 l1 c1,.slice A2 l2 c2,.slice A3 l3 c3],.slice AS n c,.slice D m d] w fun e w'=>e=.returned (.bool (dverB P Q a b y z side prf))∧Ext w w':=by
 have HG:=hide h
 have HM:=hide hM
 have HS:=hide hS
 obtain⟨zz,hz⟩:∃z,z=byteSz Q:=⟨_,rfl⟩
 obtain⟨N2,hN2⟩:∃N2,N2=2*byteSz Q:=⟨_,rfl⟩
 have hNz:N2=zz+zz:=by omega
 have hz128':zz≤128:=by omega
 obtain⟨t,ht⟩:∃t,t=dverB P Q a b y z side prf:=⟨_,rfl⟩
 rw[←ht]
 have Hz:=hide hz
 have HN:=hide hN2
 have HNz:=hide hNz
 have Ht:=hide ht
 clear hz hN2 hNz ht h hM hS hz128
 go_enter Tryz.func50,Tryz.ntmps50
 obtain⟨W0,hW0⟩:∃W0,W0=w.alloc (.cells #[.slice A0 l0 c0,.slice A1 l1 c1,.slice A2 l2 c2,.slice A3 l3 c3] 37):=⟨_,rfl⟩
 have b5:Blk W0 w.heap.size 37 #[.slice A0 l0 c0,.slice A1 l1 c1,.slice A2 l2 c2,.slice A3 l3 c3]:=by rw[hW0];exact Blk.new _ _ _
 have hW0s:W0.heap.size=w.heap.size+1:=by rw[hW0];simp
 have hE:Ext w W0:=by rw[hW0];exact(Upd.refl _ w).alloc _
 have q0:=b5.at 0 rfl
 have q1:=b5.at 1 rfl
 have q2:=b5.at 2 rfl
 have q3:=b5.at 3 rfl
 rw[hW0]at q0 q1 q2 q3
 go_wp2_with fail
 clear q0 q1 q2 q3
 refine name_c (fun W hW=>?_)
 rw[←hW0]at hW
 have hEW:Ext w W:=by rw[hW];exact hE.alloc _
 have b5':Blk W w.heap.size 37 #[.slice A0 l0 c0,.slice A1 l1 c1,.slice A2 l2 c2,.slice A3 l3 c3]:=by rw[hW];exact b5.ext ((Upd.refl _ _).alloc _)
 have hL:NatL W (some ⟨w.heap.size+1,0,none⟩) [a,b,y,z]:=by
  have hx:Ext w (W0.alloc (.cells #[.slice A0 l0 c0,.slice A1 l1 c1,.slice A2 l2 c2,.slice A3 l3 c3] 34)):=hE.alloc _
  rw[hW]
  exact natL4 (Blk.new_at (t:=34) hW0s) (h0.ext hx) (h1.ext hx) (h2.ext hx) (h3.ext hx)
 clear hW hW0 hW0s b5 hE W0
 refine(dmembers_any gr P Q G H k W _ 4 4 [a,b,y,z] (HG.out.ext hEW) hL rfl (by omega) (fun i hi=>by match i,hi with | 0,_=>exact hFa | 1,_=>exact hFb | 2,_=>exact hFy | 3,_=>exact hFz) hP hQ hk (by omega)).mono ?_
 rintro e w1 ⟨rfl,hU1⟩
 have hE1:=hEW.trans hU1
 have b5:=b5'.ext hU1
 clear hL b5' hU1 hEW
 cases hall:[a,b,y,z].all (memB P Q)with
 | false=>
   obtain rfl:t=false:=by rw[Ht.out];unfold dverB;rw[hall,Bool.false_and]
   clear hall
   go_wp2_with fail
   go_ret
   exact⟨rfl,hE1⟩
 | true=>
   have Hall:=hide hall
   clear hall
   go_wp2_with fail
   refine(ssize_any gr P Q G H k w1 (HG.out.ext hE1) hQ (by omega)).mono ?_
   rw[←HN.out]
   rintro e w2 ⟨rfl,hU2⟩
   have hE2:=hE1.trans hU2
   have b5':=b5.ext hU2
   clear b5 hU2 hE1
   by_cases hm:m=N2
   case neg=>
    have hne:¬((m:Int)=(N2:Int)):=by omega
    obtain rfl:t=false:=by rw[Ht.out];unfold dverB;rw[decide_eq_false (show ¬prf.length=2*byteSz Q by rw[show prf.length=m from HS.out.2.1,←HN.out];exact hm),Bool.false_and,Bool.and_false]
    go_wp2_with fail
    go_ret
    exact⟨rfl,hE2⟩
   subst hm
   obtain⟨cb,hcb⟩:∃b,b=prf.take zz:=⟨_,rfl⟩
   obtain⟨sb,hsb⟩:∃b,b=prf.drop zz:=⟨_,rfl⟩
   have hcl:cb.length=zz:=by rw[hcb,List.length_take,show prf.length=m from HS.out.2.1,HNz.out];omega
   have hsl:sb.length=zz:=by rw[hsb,List.length_drop,show prf.length=m from HS.out.2.1,HNz.out];omega
   obtain⟨ask,hask⟩:∃x,x=ofB cb:=⟨_,rfl⟩
   obtain⟨ss,hss⟩:∃x,x=ofB sb:=⟨_,rfl⟩
   have hFc:Fit k ask:=by rw[hask];exact fit_bs128 (n:=128) (by omega) (by omega)
   have hFs:Fit k ss:=by rw[hss];exact fit_bs128 (n:=128) (by omega) (by omega)
   have htt:t=(decide (ask<Q) && (decide (ss<Q) && decide (ansN P Q [a,b,y,z,opn P Q a y ss ask,opn P Q b z ss ask] side=ask))):=by
    rw[Ht.out];unfold dverB
    rw[←Hz.out,←hcb,←hsb,←hask,←hss,Hall.out,decide_eq_true (show prf.length=2*zz by have h1:prf.length=m:=HS.out.2.1;have:=HNz.out;omega),Bool.true_and,Bool.true_and]
   have Htt:=hide htt
   have hsd:zz≤d:=by have h1:m≤d:=HS.out.2.2.1;have:=HNz.out;omega
   have hs1:∀w,(Instr.sliceAt 23 (.slice D m d) none (some (.int .i64 (zz:Int))) none).run Tryz.prog w=.ok (.slice D zz d) w:=fun w=>run_cut_h Tryz.n_el8.under Tryz.n_sz8 D m d zz .i64 hsd w
   have hs2:∀w,(Instr.sliceAt 23 (.slice D m d) (some (.int .i64 (zz:Int))) none none).run Tryz.prog w=.ok (.slice (shA D d zz) zz (d - zz)) w:=fun w=>by
     have:=run_cut_l Tryz.n_el8.under Tryz.n_sz8 D m d zz .i64 (by have:=HNz.out;omega) w
     rw[show m - zz=zz by have:=HNz.out;omega]at this
     exact this
   have hSc:Sl by8 w D cb:=by rw[hcb];exact HS.out.1.take zz
   have hSs:Sl by8 w (shA D d zz) sb:=by rw[hsb];exact HS.out.1.shA (show prf.length≤d from Nat.le_trans (Nat.le_of_eq HS.out.2.1) HS.out.2.2.1)
   have HSc:=hide hSc
   have HSs:=hide hSs
   have Hcl:=hide hcl
   have Hsl:=hide hsl
   have Hask:=hide hask
   have Hss:=hide hss
   have hmems:memB P Q a=true∧memB P Q b=true∧memB P Q y=true∧memB P Q z=true:=by
    have h5:=Hall.out
    simp only[List.all_cons,List.all_nil,Bool.and_true,Bool.and_eq_true]at h5
    exact⟨h5.1,h5.2.1,h5.2.2.1,h5.2.2.2⟩
   obtain⟨hy1,hy2⟩:=inv_of' (memB_lt hmems.2.2.1).2.2 hP2 hQ64
   obtain⟨hz1,hz2⟩:=inv_of' (memB_lt hmems.2.2.2).2.2 hP2 hQ64
   obtain⟨yi,hyi⟩:∃x,x=y^(Q - 1) % P:=⟨_,rfl⟩
   obtain⟨zi,hzi⟩:∃x,x=z^(Q - 1) % P:=⟨_,rfl⟩
   have hFu:Fit k (opn P Q a y ss ask):=hP.le (Nat.le_of_lt (Nat.mod_lt _ (by omega)))
   have hFv:Fit k (opn P Q b z ss ask):=hP.le (Nat.le_of_lt (Nat.mod_lt _ (by omega)))
   obtain⟨un,hu⟩:∃x,x=opn P Q a y ss ask:=⟨_,rfl⟩
   obtain⟨vn,hv⟩:∃x,x=opn P Q b z ss ask:=⟨_,rfl⟩
   have hue:prodE [a,yi] [ss,ask] 2 % P=un:=by rw[prodE_two,hu,hyi];rfl
   have hve:prodE [b,zi] [ss,ask] 2 % P=vn:=by rw[prodE_two,hv,hzi];rfl
   rw[←hyi]at hy1 hy2
   rw[←hzi]at hz1 hz2
   rw[←hu]at hFu Htt
   rw[←hv]at hFv Htt
   have hFyi:Fit k yi:=hP.le (Nat.le_of_lt hy1)
   have hFzi:Fit k zi:=hP.le (Nat.le_of_lt hz1)
   have Hy2:=hide hy2
   have Hz2:=hide hz2
   have Hue:=hide hue
   have Hve:=hide hve
   clear htt hSc hSs hcl hsl hcb hsb hask hss hsd hmems hyi hzi hu hv hue hve hy2 hz2
   go_wp2_with fail
   refine(dwidth_any gr P Q G H k w2 (HG.out.ext hE2) hQ (by omega)).mono ?_
   rw[←Hz.out]
   rintro e w3 ⟨rfl,hU3⟩
   have hE3:=hE2.trans hU3
   go_wp2_with fail
   refine(gField_any gr P Q G H w3 (HG.out.ext hE3)).mono ?_
   rintro e w4 ⟨gq,rfl,hRq,rfl⟩
   go_wp2_with fail
   refine(mmod_any gq Q _ hRq).mono ?_
   rintro e w5 ⟨A5,l5,c5,rfl,hV5,hU5⟩
   go_wp2_with fail
   refine name_c (fun W5 hW5=>?_)
   have hU5W:Ext w2 W5:=by rw[hW5];exact(hU3.trans hU5).alloc _
   have b10:Box W5 w5.heap.size 34 (.slice A5 l5 c5):=by rw[hW5];exact Box.new _ _ _
   have hVq:NatV W5 (.agg #[.slice A5 l5 c5]) Q:=by rw[hW5];exact hV5.ext ((Upd.refl _ _).alloc _)
   have hE5:=hE2.trans hU5W
   have b5:=b5'.ext hU5W
   clear hW5 hU3 hU5 hU5W hV5 hE3 hE2 b5' hRq
   refine(from_any D zz d cb W5 Hcl.out hz128' (HSc.out.ext hE5)).mono ?_
   rw[←Hask.out]
   rintro e w6 ⟨A6,l6,c6,rfl,hV6,hU6⟩
   go_wp2_with fail
   refine name_c (fun W7 hW7=>?_)
   have hU7:Ext W5 W7:=by rw[hW7];exact hU6.alloc _
   have b11:Box W7 w6.heap.size 34 (.slice A6 l6 c6):=by rw[hW7];exact Box.new _ _ _
   have hVc:NatV W7 (.agg #[.slice A6 l6 c6]) ask:=by rw[hW7];exact hV6.ext ((Upd.refl _ _).alloc _)
   have b10':=b10.ext hU7
   have hVq':=hVq.ext hU7
   have hE7:=hE5.trans hU7
   have b5':=b5.ext hU7
   clear hW7 hU6 hU7 hV6 hE5 b10 hVq b5
   refine(from_any (shA D d zz) zz (d - zz) sb W7 Hsl.out hz128' (HSs.out.ext hE7)).mono ?_
   rw[←Hss.out]
   rintro e w8 ⟨A8,l8,c8,rfl,hV8,hU8⟩
   have q10:=((b10'.ext hU8).alloc (.cells #[.slice A8 l8 c8] 34)).cell
   have q11:=((b11.ext hU8).alloc (.cells #[.slice A8 l8 c8] 34)).cell
   go_wp2_with fail
   clear q10 q11
   refine name_c (fun Y hY=>?_)
   have hU9:Ext W7 Y:=by rw[hY];exact hU8.alloc _
   have b13:Box Y w8.heap.size 34 (.slice A8 l8 c8):=by rw[hY];exact Box.new _ _ _
   have hVs:NatV Y (.agg #[.slice A8 l8 c8]) ss:=by rw[hY];exact hV8.ext ((Upd.refl _ _).alloc _)
   have b10:=b10'.ext hU9
   have b11':=b11.ext hU9
   have hVq:=hVq'.ext hU9
   have hVc':=hVc.ext hU9
   have hE9:=hE7.trans hU9
   have b5:=b5'.ext hU9
   clear hY hU8 hU9 hV8 hE7 b10' b11 hVq' hVc b5' hs1 hs2
   refine(cmp_any _ _ ask Q k Y hVc' hVq hFc hQ (by omega)).mono ?_
   rintro e w10 ⟨rfl,hU10⟩
   by_cases hcQ:ask<Q
   case neg=>
    obtain⟨x,hx,hx0⟩:∃x,cmpI ask Q=x∧(0:Int)≤x:=⟨_,rfl,by unfold cmpI;rw[if_neg hcQ];split<;>omega⟩
    rw[hx]
    have hEf:=hE9.trans hU10
    obtain rfl:t=false:=by rw[Htt.out,decide_eq_false hcQ];rfl
    go_wp2_with fail
    go_ret
    exact⟨rfl,hEf⟩
   rw[cmpI_lt hcQ]
   have q13:=(b13.ext hU10).cell
   have q10:=(b10.ext hU10).cell
   go_wp2_with fail
   clear q10 q13
   refine(cmp_any _ _ ss Q k w10 (hVs.ext hU10) (hVq.ext hU10) hFs hQ (by omega)).mono ?_
   rintro e w11 ⟨rfl,hU11⟩
   by_cases hsQ:ss<Q
   case neg=>
    obtain⟨x,hx,hx0⟩:∃x,cmpI ss Q=x∧(0:Int)≤x:=⟨_,rfl,by unfold cmpI;rw[if_neg hsQ];split<;>omega⟩
    rw[hx]
    have hEf:=(hE9.trans hU10).trans hU11
    obtain rfl:t=false:=by rw[Htt.out,decide_eq_false hsQ];simp
    go_wp2_with fail
    go_ret
    exact⟨rfl,hEf⟩
   rw[cmpI_lt hsQ]
   have hU12:=hU10.trans hU11
   have b5':=b5.ext hU12
   have b11:=b11'.ext hU12
   have b13':=b13.ext hU12
   have hVc:=hVc'.ext hU12
   have hVs':=hVs.ext hU12
   have hE12:=hE9.trans hU12
   clear hU10 hU11 hU12 hE9 b5 b11' b13 b10 hVq hVc' hVs
   go_wp2_with fail
   refine name_w (fun X hX=>?_)
   subst hX
   have y0:=b5'.at 0 rfl
   have y1:=b5'.at 1 rfl
   have y2:=b5'.at 2 rfl
   have y3:=b5'.at 3 rfl
   refine wp_region_fg 17 [.val (.eq (.pointer (some ⟨gr,0,none⟩))),.val (.eq (.pointer (some ⟨w.heap.size,0,none⟩))),.val (.eq (.agg #[.slice A0 l0 c0])),.val (.eq (.pointer (some ⟨gr,0,none⟩))),.val (.eq (.pointer (some ⟨w.heap.size,2,none⟩))),.val (.eq (.agg #[.slice A2 l2 c2])),.val (.p (natP (yi))),.val (.p (twoP ([a,yi]))),.val (.eq (.agg #[.slice A8 l8 c8])),.val (.eq (.agg #[.slice A6 l6 c6])),.val (.p (twoP ([ss,ask]))),.tup2 (.p (natP (un))) (.eq (.int .i64 0)),.tup2 (.p (natP (un))) (.eq (.int .i64 0)),.val (.p (natP (un))),.val (.eq (.int .i64 0)),.new 34 (.slice none 0 0),.set 15 34 (natC (un))] [(16,15)] (by kernel_rfl) rfl (by kernel_rfl) (by kernel_rfl) (by kernel_rfl) ?_ ?_
   · intro i hi
     match i,hi with
     | 0,_=>
       intro u wx S o ho hE hr hd hw
       injection (ho:some _=some o)with ho
       subst ho
       have hEx:Ext X wx:=hE.undrew
       simp only[fr,dstOf]
       go_simp
       go_wp2
       first | exact⟨Upd.refl _ _,rfl⟩ | exact⟨_,rfl,Upd.refl _ _,rfl⟩
     | 1,_=>
       intro u wx S o ho hE hr hd hw
       injection (ho:some _=some o)with ho
       subst ho
       have hEx:Ext X wx:=hE.undrew
       simp only[fr,dstOf]
       go_simp
       go_wp2
       first | exact⟨Upd.refl _ _,rfl⟩ | exact⟨_,rfl,Upd.refl _ _,rfl⟩
     | 2,_=>
       intro u wx S o ho hE hr hd hw
       injection (ho:some _=some o)with ho
       subst ho
       have hEx:Ext X wx:=hE.undrew
       have f1:u 1=.pointer (some ⟨w.heap.size,0,none⟩):=hw 1 (by omega) (by kernel_rfl) (by simp)
       have cx:=hEx.cellv y0
       simp only[fr,dstOf]
       go_simp
       go_wp2
       first | exact⟨Upd.refl _ _,rfl⟩ | exact⟨_,rfl,Upd.refl _ _,rfl⟩
     | 3,_=>
       intro u wx S o ho hE hr hd hw
       injection (ho:some _=some o)with ho
       subst ho
       have hEx:Ext X wx:=hE.undrew
       simp only[fr,dstOf]
       go_simp
       go_wp2
       first | exact⟨Upd.refl _ _,rfl⟩ | exact⟨_,rfl,Upd.refl _ _,rfl⟩
     | 4,_=>
       intro u wx S o ho hE hr hd hw
       injection (ho:some _=some o)with ho
       subst ho
       have hEx:Ext X wx:=hE.undrew
       simp only[fr,dstOf]
       go_simp
       go_wp2
       first | exact⟨Upd.refl _ _,rfl⟩ | exact⟨_,rfl,Upd.refl _ _,rfl⟩
     | 5,_=>
       intro u wx S o ho hE hr hd hw
       injection (ho:some _=some o)with ho
       subst ho
       have hEx:Ext X wx:=hE.undrew
       have f4:u 4=.pointer (some ⟨w.heap.size,2,none⟩):=hw 4 (by omega) (by kernel_rfl) (by simp)
       have cx:=hEx.cellv y2
       simp only[fr,dstOf]
       go_simp
       go_wp2
       first | exact⟨Upd.refl _ _,rfl⟩ | exact⟨_,rfl,Upd.refl _ _,rfl⟩
     | 6,_=>
       intro u wx S o ho hE hr hd hw
       injection (ho:some _=some o)with ho
       subst ho
       have hEx:Ext X wx:=hE.undrew
       have f3:u 3=.pointer (some ⟨gr,0,none⟩):=hw 3 (by omega) (by kernel_rfl) (by simp)
       have f5:u 5=.agg #[.slice A2 l2 c2]:=hw 5 (by omega) (by kernel_rfl) (by simp)
       simp only[fr,dstOf]
       go_simp
       go_wp2_with fail
       refine(gInv_any gr P Q G H k _ _ y yi (HG.out.ext (hE12.trans hEx)) (h2.ext (hE12.trans hEx)) hFy hP hk (by omega) hy1 Hy2.out).mono ?_
       rintro e wn ⟨A19,l19,c19,rfl,hVn,hU⟩
       go_wp2_with fail
       first | exact⟨_,rfl,hU.mono (fun _ _ h=>h.elim),_,_,_,rfl,hVn⟩ | exact⟨hU.mono (fun _ _ h=>h.elim),_,_,_,rfl,hVn⟩
     | 7,_=>
       intro u wx S o ho hE hr hd hw
       injection (ho:some _=some o)with ho
       subst ho
       have hEx:Ext X wx:=hE.undrew
       have f2:u 2=.agg #[.slice A0 l0 c0]:=hw 2 (by omega) (by kernel_rfl) (by simp)
       obtain⟨aA6,aL6,aC6,f6,hV6⟩:FG.J 6 (.val (.p (natP (yi)))) u wx (S 6):=hw 6 (by omega) (by kernel_rfl) (by simp)
       simp only[fr,dstOf]
       go_simp
       go_wp2
       exact⟨_,rfl,(Upd.refl _ _).alloc _,_,_,_,rfl,rfl,rfl,NTwo.mk _ (h0.ext (hE12.trans hEx)) hV6⟩
     | 8,_=>
       intro u wx S o ho hE hr hd hw
       injection (ho:some _=some o)with ho
       subst ho
       have hEx:Ext X wx:=hE.undrew
       have cx:=(b13'.ext hEx).cell
       simp only[fr,dstOf]
       go_simp
       go_wp2
       first | exact⟨Upd.refl _ _,rfl⟩ | exact⟨_,rfl,Upd.refl _ _,rfl⟩
     | 9,_=>
       intro u wx S o ho hE hr hd hw
       injection (ho:some _=some o)with ho
       subst ho
       have hEx:Ext X wx:=hE.undrew
       have cx:=(b11.ext hEx).cell
       simp only[fr,dstOf]
       go_simp
       go_wp2
       first | exact⟨Upd.refl _ _,rfl⟩ | exact⟨_,rfl,Upd.refl _ _,rfl⟩
     | 10,_=>
       intro u wx S o ho hE hr hd hw
       injection (ho:some _=some o)with ho
       subst ho
       have hEx:Ext X wx:=hE.undrew
       have f8:u 8=.agg #[.slice A8 l8 c8]:=hw 8 (by omega) (by kernel_rfl) (by simp)
       have f9:u 9=.agg #[.slice A6 l6 c6]:=hw 9 (by omega) (by kernel_rfl) (by simp)
       simp only[fr,dstOf]
       go_simp
       go_wp2
       exact⟨_,rfl,(Upd.refl _ _).alloc _,_,_,_,rfl,rfl,rfl,NTwo.mk _ (hVs'.ext hEx) (hVc.ext hEx)⟩
     | 11,_=>
       intro u wx S o ho hE hr hd hw
       injection (ho:some _=some o)with ho
       subst ho
       have hEx:Ext X wx:=hE.undrew
       have f0:u 0=.pointer (some ⟨gr,0,none⟩):=hw 0 (by omega) (by kernel_rfl) (by simp)
       obtain⟨aA7,aL7,aC7,f7,hV7⟩:FG.J 7 (.val (.p (twoP ([a,yi])))) u wx (S 7):=hw 7 (by omega) (by kernel_rfl) (by simp)
       obtain⟨aA10,aL10,aC10,f10,hV10⟩:FG.J 10 (.val (.p (twoP ([ss,ask])))) u wx (S 10):=hw 10 (by omega) (by kernel_rfl) (by simp)
       simp only[fr,dstOf]
       go_simp
       go_wp2_with fail
       refine(gMulti_any gr P Q G H k _ _ 2 _ _ [a,yi] [ss,ask] _ (HG.out.ext (hE12.trans hEx)) hV7.2.2.natL hV10.2.2.natL rfl rfl (fun i hi=>by match i,hi with | 0,_=>exact hFa | 1,_=>exact hFyi) (fun i hi=>by match i,hi with | 0,_=>exact hFs | 1,_=>exact hFc) hP hP2 (by omega) hk (by omega)).mono ?_
       rintro e wn ⟨A19,l19,c19,rfl,hVn,hU⟩
       go_wp2_with fail
       exact⟨_,rfl,hU.mono (fun _ _ h=>h.elim),_,_,rfl,⟨_,_,_,rfl,(by rw[←Hue.out];exact hVn)⟩,rfl⟩
     | 12,_=>
       intro u wx S o ho hE hr hd hw
       injection (ho:some _=some o)with ho
       subst ho
       have hEx:Ext X wx:=hE.undrew
       obtain⟨_,_,f11,⟨aA11_0,aL11_0,aC11_0,rfl,hV11_0⟩,rfl⟩:FG.J 11 (.tup2 (.p (natP (un))) (.eq (.int .i64 0))) u wx (S 11):=hw 11 (by omega) (by kernel_rfl) (by simp)
       simp only[fr,dstOf]
       go_simp
       go_wp2
       first | exact⟨Upd.refl _ _,_,_,rfl,⟨_,_,_,rfl,hV11_0⟩,rfl⟩ | exact⟨_,rfl,Upd.refl _ _,_,_,rfl,⟨_,_,_,rfl,hV11_0⟩,rfl⟩
     | 13,_=>
       intro u wx S o ho hE hr hd hw
       injection (ho:some _=some o)with ho
       subst ho
       have hEx:Ext X wx:=hE.undrew
       obtain⟨_,_,f12,⟨aA12_0,aL12_0,aC12_0,rfl,hV12_0⟩,rfl⟩:FG.J 12 (.tup2 (.p (natP (un))) (.eq (.int .i64 0))) u wx (S 12):=hw 12 (by omega) (by kernel_rfl) (by simp)
       simp only[fr,dstOf]
       go_simp
       go_wp2
       first | exact⟨Upd.refl _ _,aA12_0,aL12_0,aC12_0,rfl,hV12_0⟩ | exact⟨_,rfl,Upd.refl _ _,aA12_0,aL12_0,aC12_0,rfl,hV12_0⟩
     | 14,_=>
       intro u wx S o ho hE hr hd hw
       injection (ho:some _=some o)with ho
       subst ho
       have hEx:Ext X wx:=hE.undrew
       obtain⟨_,_,f12,⟨aA12_0,aL12_0,aC12_0,rfl,hV12_0⟩,rfl⟩:FG.J 12 (.tup2 (.p (natP (un))) (.eq (.int .i64 0))) u wx (S 12):=hw 12 (by omega) (by kernel_rfl) (by simp)
       simp only[fr,dstOf]
       go_simp
       go_wp2
       first | exact⟨Upd.refl _ _,rfl⟩ | exact⟨_,rfl,Upd.refl _ _,rfl⟩
     | 15,_=>
       intro u wx S o ho hE hr hd hw
       injection (ho:some _=some o)with ho
       subst ho
       have hEx:Ext X wx:=hE.undrew
       simp only[fr,dstOf]
       go_simp
       go_wp2
       first | exact⟨(Upd.refl _ _).alloc _,wx.heap.size,rfl,Bx.new _ _ _,⟨Nat.le_refl _,by first | exact Nat.lt_succ_self _ | simp⟩,fun b hb=>by first | omega | (simp at hb;omega)⟩ | exact⟨_,rfl,(Upd.refl _ _).alloc _,wx.heap.size,rfl,Bx.new _ _ _,⟨Nat.le_refl _,by first | exact Nat.lt_succ_self _ | simp⟩,fun b hb=>by first | omega | (simp at hb;omega)⟩
     | 16,_=>
       intro u wx S o ho hE hr hd hw
       injection (ho:some _=some o)with ho
       subst ho
       have hEx:Ext X wx:=hE.undrew
       obtain⟨aA13,aL13,aC13,f13,hV13⟩:FG.J 13 (.val (.p (natP (un)))) u wx (S 13):=hw 13 (by omega) (by kernel_rfl) (by simp)
       obtain⟨g15,f15,hb15,hs15,hall15⟩:FG.J 15 (.new 34 (.slice none 0 0)) u wx (S 15):=hw 15 (by omega) (by kernel_rfl) (by simp)
       have cg15:=hb15.cell
       have fg15:=hb15.frozen
       simp only[fr,dstOf]
       go_simp
       go_wp2
       first | exact⟨(Upd.refl _ _).setCell (p:=⟨g15,0,none⟩) (.inl hs15) _,undef,g15,_,(updf_ne u _ (by decide)).trans f15,hb15.set _,.inr hs15,⟨_,_,_,rfl,hV13.far cg15⟩⟩ | exact⟨undef,(Upd.refl _ _).setCell (p:=⟨g15,0,none⟩) (.inl hs15) _,g15,_,(updf_ne u _ (by decide)).trans f15,hb15.set _,.inr hs15,⟨_,_,_,rfl,hV13.far cg15⟩⟩ | exact⟨trivial,(Upd.refl _ _).setCell (p:=⟨g15,0,none⟩) (.inl hs15) _,undef,g15,_,(updf_ne u _ (by decide)).trans f15,hb15.set _,.inr hs15,⟨_,_,_,rfl,hV13.far cg15⟩⟩
     | k+17,h=>exact absurd h (by omega)
   · intro u wx S hE hw hrg hdj
     have hEx:Ext X wx:=hE.undrew
     have f0:u 0=.pointer (some ⟨gr,0,none⟩):=hw 0 (by omega) (by simp)
     have f1:u 1=.pointer (some ⟨w.heap.size,0,none⟩):=hw 1 (by omega) (by simp)
     have f2:u 2=.agg #[.slice A0 l0 c0]:=hw 2 (by omega) (by simp)
     have f3:u 3=.pointer (some ⟨gr,0,none⟩):=hw 3 (by omega) (by simp)
     have f4:u 4=.pointer (some ⟨w.heap.size,2,none⟩):=hw 4 (by omega) (by simp)
     have f5:u 5=.agg #[.slice A2 l2 c2]:=hw 5 (by omega) (by simp)
     obtain⟨aA6,aL6,aC6,f6,hV6⟩:FG.J 6 (.val (.p (natP (yi)))) u wx (S 6):=hw 6 (by omega) (by simp)
     obtain⟨aA7,aL7,aC7,f7,hV7⟩:FG.J 7 (.val (.p (twoP ([a,yi])))) u wx (S 7):=hw 7 (by omega) (by simp)
     have f8:u 8=.agg #[.slice A8 l8 c8]:=hw 8 (by omega) (by simp)
     have f9:u 9=.agg #[.slice A6 l6 c6]:=hw 9 (by omega) (by simp)
     obtain⟨aA10,aL10,aC10,f10,hV10⟩:FG.J 10 (.val (.p (twoP ([ss,ask])))) u wx (S 10):=hw 10 (by omega) (by simp)
     obtain⟨_,_,f11,⟨aA11_0,aL11_0,aC11_0,rfl,hV11_0⟩,rfl⟩:FG.J 11 (.tup2 (.p (natP (un))) (.eq (.int .i64 0))) u wx (S 11):=hw 11 (by omega) (by simp)
     obtain⟨_,_,f12,⟨aA12_0,aL12_0,aC12_0,rfl,hV12_0⟩,rfl⟩:FG.J 12 (.tup2 (.p (natP (un))) (.eq (.int .i64 0))) u wx (S 12):=hw 12 (by omega) (by simp)
     obtain⟨aA13,aL13,aC13,f13,hV13⟩:FG.J 13 (.val (.p (natP (un)))) u wx (S 13):=hw 13 (by omega) (by simp)
     have f14:u 14=.int .i64 0:=hw 14 (by omega) (by simp)
     obtain⟨g16,_,f15,hb16,hs16,⟨aA16,aL16,aC16,rfl,hV16⟩⟩:FG.J 16 (.set 15 34 (natC (un))) u wx (S 16):=hw 16 (by omega) (by simp)
     simp only[fr,dstOf]
     go_simp
     have b15:Box wx g16 34 (.slice aA16 aL16 aC16):=Box.bx hb16
     have b5:=b5'.ext hEx
     have b11':=b11.ext hEx
     have b13:=b13'.ext hEx
     have hVc':=hVc.ext hEx
     have hVs:=hVs'.ext hEx
     have hE13:=hE12.trans hEx
     have hVu:=hV16
     clear hw hrg hdj hs16 hb16 hV6 hV7 hV10 hV11_0 hV12_0 hV13 hV16 f0 f1 f2 f3 f4 f5 f6 f7 f8 f9 f10 f11 f12 f13 f14 f15 b5' b11 b13' hVc hVs' hE12 hEx y0 y1 y2 y3
     go_wp2_with fail
     refine name_w (fun X2 hX2=>?_)
     subst hX2
     have y1:=b5.at 1 rfl
     have y3:=b5.at 3 rfl
     refine wp_region_fg 17 [.val (.eq (.pointer (some ⟨gr,0,none⟩))),.val (.eq (.pointer (some ⟨w.heap.size,1,none⟩))),.val (.eq (.agg #[.slice A1 l1 c1])),.val (.eq (.pointer (some ⟨gr,0,none⟩))),.val (.eq (.pointer (some ⟨w.heap.size,3,none⟩))),.val (.eq (.agg #[.slice A3 l3 c3])),.val (.p (natP (zi))),.val (.p (twoP ([b,zi]))),.val (.eq (.agg #[.slice A8 l8 c8])),.val (.eq (.agg #[.slice A6 l6 c6])),.val (.p (twoP ([ss,ask]))),.tup2 (.p (natP (vn))) (.eq (.int .i64 0)),.tup2 (.p (natP (vn))) (.eq (.int .i64 0)),.val (.p (natP (vn))),.val (.eq (.int .i64 0)),.new 34 (.slice none 0 0),.set 15 34 (natC (vn))] [(16,15)] (by kernel_rfl) rfl (by kernel_rfl) (by kernel_rfl) (by kernel_rfl) ?_ ?_
     · intro i hi
       match i,hi with
       | 0,_=>
         intro u wx S o ho hE hr hd hw
         injection (ho:some _=some o)with ho
         subst ho
         have hEx:Ext X2 wx:=hE.undrew
         simp only[fr,dstOf]
         go_simp
         go_wp2
         first | exact⟨Upd.refl _ _,rfl⟩ | exact⟨_,rfl,Upd.refl _ _,rfl⟩
       | 1,_=>
         intro u wx S o ho hE hr hd hw
         injection (ho:some _=some o)with ho
         subst ho
         have hEx:Ext X2 wx:=hE.undrew
         simp only[fr,dstOf]
         go_simp
         go_wp2
         first | exact⟨Upd.refl _ _,rfl⟩ | exact⟨_,rfl,Upd.refl _ _,rfl⟩
       | 2,_=>
         intro u wx S o ho hE hr hd hw
         injection (ho:some _=some o)with ho
         subst ho
         have hEx:Ext X2 wx:=hE.undrew
         have f1:u 1=.pointer (some ⟨w.heap.size,1,none⟩):=hw 1 (by omega) (by kernel_rfl) (by simp)
         have cx:=hEx.cellv y1
         simp only[fr,dstOf]
         go_simp
         go_wp2
         first | exact⟨Upd.refl _ _,rfl⟩ | exact⟨_,rfl,Upd.refl _ _,rfl⟩
       | 3,_=>
         intro u wx S o ho hE hr hd hw
         injection (ho:some _=some o)with ho
         subst ho
         have hEx:Ext X2 wx:=hE.undrew
         simp only[fr,dstOf]
         go_simp
         go_wp2
         first | exact⟨Upd.refl _ _,rfl⟩ | exact⟨_,rfl,Upd.refl _ _,rfl⟩
       | 4,_=>
         intro u wx S o ho hE hr hd hw
         injection (ho:some _=some o)with ho
         subst ho
         have hEx:Ext X2 wx:=hE.undrew
         simp only[fr,dstOf]
         go_simp
         go_wp2
         first | exact⟨Upd.refl _ _,rfl⟩ | exact⟨_,rfl,Upd.refl _ _,rfl⟩
       | 5,_=>
         intro u wx S o ho hE hr hd hw
         injection (ho:some _=some o)with ho
         subst ho
         have hEx:Ext X2 wx:=hE.undrew
         have f4:u 4=.pointer (some ⟨w.heap.size,3,none⟩):=hw 4 (by omega) (by kernel_rfl) (by simp)
         have cx:=hEx.cellv y3
         simp only[fr,dstOf]
         go_simp
         go_wp2
         first | exact⟨Upd.refl _ _,rfl⟩ | exact⟨_,rfl,Upd.refl _ _,rfl⟩
       | 6,_=>
         intro u wx S o ho hE hr hd hw
         injection (ho:some _=some o)with ho
         subst ho
         have hEx:Ext X2 wx:=hE.undrew
         have f3:u 3=.pointer (some ⟨gr,0,none⟩):=hw 3 (by omega) (by kernel_rfl) (by simp)
         have f5:u 5=.agg #[.slice A3 l3 c3]:=hw 5 (by omega) (by kernel_rfl) (by simp)
         simp only[fr,dstOf]
         go_simp
         go_wp2_with fail
         refine(gInv_any gr P Q G H k _ _ z zi (HG.out.ext (hE13.trans hEx)) (h3.ext (hE13.trans hEx)) hFz hP hk (by omega) hz1 Hz2.out).mono ?_
         rintro e wn ⟨A19,l19,c19,rfl,hVn,hU⟩
         go_wp2_with fail
         first | exact⟨_,rfl,hU.mono (fun _ _ h=>h.elim),_,_,_,rfl,hVn⟩ | exact⟨hU.mono (fun _ _ h=>h.elim),_,_,_,rfl,hVn⟩
       | 7,_=>
         intro u wx S o ho hE hr hd hw
         injection (ho:some _=some o)with ho
         subst ho
         have hEx:Ext X2 wx:=hE.undrew
         have f2:u 2=.agg #[.slice A1 l1 c1]:=hw 2 (by omega) (by kernel_rfl) (by simp)
         obtain⟨aA6,aL6,aC6,f6,hV6⟩:FG.J 6 (.val (.p (natP (zi)))) u wx (S 6):=hw 6 (by omega) (by kernel_rfl) (by simp)
         simp only[fr,dstOf]
         go_simp
         go_wp2
         exact⟨_,rfl,(Upd.refl _ _).alloc _,_,_,_,rfl,rfl,rfl,NTwo.mk _ (h1.ext (hE13.trans hEx)) hV6⟩
       | 8,_=>
         intro u wx S o ho hE hr hd hw
         injection (ho:some _=some o)with ho
         subst ho
         have hEx:Ext X2 wx:=hE.undrew
         have cx:=(b13.ext hEx).cell
         simp only[fr,dstOf]
         go_simp
         go_wp2
         first | exact⟨Upd.refl _ _,rfl⟩ | exact⟨_,rfl,Upd.refl _ _,rfl⟩
       | 9,_=>
         intro u wx S o ho hE hr hd hw
         injection (ho:some _=some o)with ho
         subst ho
         have hEx:Ext X2 wx:=hE.undrew
         have cx:=(b11'.ext hEx).cell
         simp only[fr,dstOf]
         go_simp
         go_wp2
         first | exact⟨Upd.refl _ _,rfl⟩ | exact⟨_,rfl,Upd.refl _ _,rfl⟩
       | 10,_=>
         intro u wx S o ho hE hr hd hw
         injection (ho:some _=some o)with ho
         subst ho
         have hEx:Ext X2 wx:=hE.undrew
         have f8:u 8=.agg #[.slice A8 l8 c8]:=hw 8 (by omega) (by kernel_rfl) (by simp)
         have f9:u 9=.agg #[.slice A6 l6 c6]:=hw 9 (by omega) (by kernel_rfl) (by simp)
         simp only[fr,dstOf]
         go_simp
         go_wp2
         exact⟨_,rfl,(Upd.refl _ _).alloc _,_,_,_,rfl,rfl,rfl,NTwo.mk _ (hVs.ext hEx) (hVc'.ext hEx)⟩
       | 11,_=>
         intro u wx S o ho hE hr hd hw
         injection (ho:some _=some o)with ho
         subst ho
         have hEx:Ext X2 wx:=hE.undrew
         have f0:u 0=.pointer (some ⟨gr,0,none⟩):=hw 0 (by omega) (by kernel_rfl) (by simp)
         obtain⟨aA7,aL7,aC7,f7,hV7⟩:FG.J 7 (.val (.p (twoP ([b,zi])))) u wx (S 7):=hw 7 (by omega) (by kernel_rfl) (by simp)
         obtain⟨aA10,aL10,aC10,f10,hV10⟩:FG.J 10 (.val (.p (twoP ([ss,ask])))) u wx (S 10):=hw 10 (by omega) (by kernel_rfl) (by simp)
         simp only[fr,dstOf]
         go_simp
         go_wp2_with fail
         refine(gMulti_any gr P Q G H k _ _ 2 _ _ [b,zi] [ss,ask] _ (HG.out.ext (hE13.trans hEx)) hV7.2.2.natL hV10.2.2.natL rfl rfl (fun i hi=>by match i,hi with | 0,_=>exact hFb | 1,_=>exact hFzi) (fun i hi=>by match i,hi with | 0,_=>exact hFs | 1,_=>exact hFc) hP hP2 (by omega) hk (by omega)).mono ?_
         rintro e wn ⟨A19,l19,c19,rfl,hVn,hU⟩
         go_wp2_with fail
         exact⟨_,rfl,hU.mono (fun _ _ h=>h.elim),_,_,rfl,⟨_,_,_,rfl,(by rw[←Hve.out];exact hVn)⟩,rfl⟩
       | 12,_=>
         intro u wx S o ho hE hr hd hw
         injection (ho:some _=some o)with ho
         subst ho
         have hEx:Ext X2 wx:=hE.undrew
         obtain⟨_,_,f11,⟨aA11_0,aL11_0,aC11_0,rfl,hV11_0⟩,rfl⟩:FG.J 11 (.tup2 (.p (natP (vn))) (.eq (.int .i64 0))) u wx (S 11):=hw 11 (by omega) (by kernel_rfl) (by simp)
         simp only[fr,dstOf]
         go_simp
         go_wp2
         first | exact⟨Upd.refl _ _,_,_,rfl,⟨_,_,_,rfl,hV11_0⟩,rfl⟩ | exact⟨_,rfl,Upd.refl _ _,_,_,rfl,⟨_,_,_,rfl,hV11_0⟩,rfl⟩
       | 13,_=>
         intro u wx S o ho hE hr hd hw
         injection (ho:some _=some o)with ho
         subst ho
         have hEx:Ext X2 wx:=hE.undrew
         obtain⟨_,_,f12,⟨aA12_0,aL12_0,aC12_0,rfl,hV12_0⟩,rfl⟩:FG.J 12 (.tup2 (.p (natP (vn))) (.eq (.int .i64 0))) u wx (S 12):=hw 12 (by omega) (by kernel_rfl) (by simp)
         simp only[fr,dstOf]
         go_simp
         go_wp2
         first | exact⟨Upd.refl _ _,aA12_0,aL12_0,aC12_0,rfl,hV12_0⟩ | exact⟨_,rfl,Upd.refl _ _,aA12_0,aL12_0,aC12_0,rfl,hV12_0⟩
       | 14,_=>
         intro u wx S o ho hE hr hd hw
         injection (ho:some _=some o)with ho
         subst ho
         have hEx:Ext X2 wx:=hE.undrew
         obtain⟨_,_,f12,⟨aA12_0,aL12_0,aC12_0,rfl,hV12_0⟩,rfl⟩:FG.J 12 (.tup2 (.p (natP (vn))) (.eq (.int .i64 0))) u wx (S 12):=hw 12 (by omega) (by kernel_rfl) (by simp)
         simp only[fr,dstOf]
         go_simp
         go_wp2
         first | exact⟨Upd.refl _ _,rfl⟩ | exact⟨_,rfl,Upd.refl _ _,rfl⟩
       | 15,_=>
         intro u wx S o ho hE hr hd hw
         injection (ho:some _=some o)with ho
         subst ho
         have hEx:Ext X2 wx:=hE.undrew
         simp only[fr,dstOf]
         go_simp
         go_wp2
         first | exact⟨(Upd.refl _ _).alloc _,wx.heap.size,rfl,Bx.new _ _ _,⟨Nat.le_refl _,by first | exact Nat.lt_succ_self _ | simp⟩,fun b hb=>by first | omega | (simp at hb;omega)⟩ | exact⟨_,rfl,(Upd.refl _ _).alloc _,wx.heap.size,rfl,Bx.new _ _ _,⟨Nat.le_refl _,by first | exact Nat.lt_succ_self _ | simp⟩,fun b hb=>by first | omega | (simp at hb;omega)⟩
       | 16,_=>
         intro u wx S o ho hE hr hd hw
         injection (ho:some _=some o)with ho
         subst ho
         have hEx:Ext X2 wx:=hE.undrew
         obtain⟨aA13,aL13,aC13,f13,hV13⟩:FG.J 13 (.val (.p (natP (vn)))) u wx (S 13):=hw 13 (by omega) (by kernel_rfl) (by simp)
         obtain⟨g15,f15,hb15,hs15,hall15⟩:FG.J 15 (.new 34 (.slice none 0 0)) u wx (S 15):=hw 15 (by omega) (by kernel_rfl) (by simp)
         have cg15:=hb15.cell
         have fg15:=hb15.frozen
         simp only[fr,dstOf]
         go_simp
         go_wp2
         first | exact⟨(Upd.refl _ _).setCell (p:=⟨g15,0,none⟩) (.inl hs15) _,undef,g15,_,(updf_ne u _ (by decide)).trans f15,hb15.set _,.inr hs15,⟨_,_,_,rfl,hV13.far cg15⟩⟩ | exact⟨undef,(Upd.refl _ _).setCell (p:=⟨g15,0,none⟩) (.inl hs15) _,g15,_,(updf_ne u _ (by decide)).trans f15,hb15.set _,.inr hs15,⟨_,_,_,rfl,hV13.far cg15⟩⟩ | exact⟨trivial,(Upd.refl _ _).setCell (p:=⟨g15,0,none⟩) (.inl hs15) _,undef,g15,_,(updf_ne u _ (by decide)).trans f15,hb15.set _,.inr hs15,⟨_,_,_,rfl,hV13.far cg15⟩⟩
       | k+17,h=>exact absurd h (by omega)
     · intro u wx S hE hw hrg hdj
       have hEx:Ext X2 wx:=hE.undrew
       have f0:u 0=.pointer (some ⟨gr,0,none⟩):=hw 0 (by omega) (by simp)
       have f1:u 1=.pointer (some ⟨w.heap.size,1,none⟩):=hw 1 (by omega) (by simp)
       have f2:u 2=.agg #[.slice A1 l1 c1]:=hw 2 (by omega) (by simp)
       have f3:u 3=.pointer (some ⟨gr,0,none⟩):=hw 3 (by omega) (by simp)
       have f4:u 4=.pointer (some ⟨w.heap.size,3,none⟩):=hw 4 (by omega) (by simp)
       have f5:u 5=.agg #[.slice A3 l3 c3]:=hw 5 (by omega) (by simp)
       obtain⟨aA6,aL6,aC6,f6,hV6⟩:FG.J 6 (.val (.p (natP (zi)))) u wx (S 6):=hw 6 (by omega) (by simp)
       obtain⟨aA7,aL7,aC7,f7,hV7⟩:FG.J 7 (.val (.p (twoP ([b,zi])))) u wx (S 7):=hw 7 (by omega) (by simp)
       have f8:u 8=.agg #[.slice A8 l8 c8]:=hw 8 (by omega) (by simp)
       have f9:u 9=.agg #[.slice A6 l6 c6]:=hw 9 (by omega) (by simp)
       obtain⟨aA10,aL10,aC10,f10,hV10⟩:FG.J 10 (.val (.p (twoP ([ss,ask])))) u wx (S 10):=hw 10 (by omega) (by simp)
       obtain⟨_,_,f11,⟨aA11_0,aL11_0,aC11_0,rfl,hV11_0⟩,rfl⟩:FG.J 11 (.tup2 (.p (natP (vn))) (.eq (.int .i64 0))) u wx (S 11):=hw 11 (by omega) (by simp)
       obtain⟨_,_,f12,⟨aA12_0,aL12_0,aC12_0,rfl,hV12_0⟩,rfl⟩:FG.J 12 (.tup2 (.p (natP (vn))) (.eq (.int .i64 0))) u wx (S 12):=hw 12 (by omega) (by simp)
       obtain⟨aA13,aL13,aC13,f13,hV13⟩:FG.J 13 (.val (.p (natP (vn)))) u wx (S 13):=hw 13 (by omega) (by simp)
       have f14:u 14=.int .i64 0:=hw 14 (by omega) (by simp)
       obtain⟨g16,_,f15,hb16,hs16,⟨aA16,aL16,aC16,rfl,hV16⟩⟩:FG.J 16 (.set 15 34 (natC (vn))) u wx (S 16):=hw 16 (by omega) (by simp)
       simp only[fr,dstOf]
       go_simp
       have b17:Box wx g16 34 (.slice aA16 aL16 aC16):=Box.bx hb16
       have b5':=b5.ext hEx
       have b11:=b11'.ext hEx
       have b15':=b15.ext hEx
       have hVc:=hVc'.ext hEx
       have hVu':=hVu.ext hEx
       have hE14:=hE13.trans hEx
       have hVv:=hV16
       clear hw hrg hdj hs16 hb16 hV6 hV7 hV10 hV11_0 hV12_0 hV13 hV16 f0 f1 f2 f3 f4 f5 f6 f7 f8 f9 f10 f11 f12 f13 f14 f15 b5 b11' b13 b15 hVc' hVs hVu hE13 hEx y1 y3
       go_wp2_with fail
       refine name_w (fun T hT=>?_)
       subst hT
       have hTd:Ext T T.drew:=(Upd.refl _ _).drew
       have hED:=hE14.trans hTd
       have y0:=fun y:Wd (Ext T.drew)=>y.ok.cellv ((b5'.ext hTd).at 0 rfl)
       have y1:=fun y:Wd (Ext T.drew)=>y.ok.cellv ((b5'.ext hTd).at 1 rfl)
       have y2:=fun y:Wd (Ext T.drew)=>y.ok.cellv ((b5'.ext hTd).at 2 rfl)
       have y3:=fun y:Wd (Ext T.drew)=>y.ok.cellv ((b5'.ext hTd).at 3 rfl)
       have y4:=fun y:Wd (Ext T.drew)=>y.ok.cellv b15'.drew.cell
       have y5:=fun y:Wd (Ext T.drew)=>y.ok.cellv b17.drew.cell
       have y6:=fun y:Wd (Ext T.drew)=>y.ok.cellv b11.drew.cell
       obtain⟨ch,hch⟩:∃ch,ch=ansN P Q [a,b,y,z,un,vn] side:=⟨_,rfl⟩
       have hFh:Fit k ch:=by rw[hch];exact hQ.le (Nat.le_of_lt (ansN_lt (by omega)))
       obtain⟨x,hx,hx0⟩:∃x,cmpI ch ask=x∧(x == 0)=t:=⟨_,rfl,by rw[Htt.out,decide_eq_true hcQ,decide_eq_true hsQ,Bool.true_and,Bool.true_and,←hch];exact cmpI_eq0 ch ask⟩
       have Hch:=hide hch
       clear hch
       have hFall:∀x∈[a,b,y,z,un,vn],Fit k x:=by
        intro x hx
        simp only[List.mem_cons,List.mem_nil_iff,or_false]at hx
        rcases hx with rfl | rfl | rfl | rfl | rfl | rfl
        · exact hFa
        · exact hFb
        · exact hFy
        · exact hFz
        · exact hFu
        · exact hFv
       have HFall:=hide hFall
       clear hFall
       refine wp_region_plan (Ext _) 9 [(false,0),(false,1),(false,2),(false,3),(false,4),(false,6),(true,5),(true,7),(false,8)] (by kernel_rfl) (by kernel_rfl) (Upd.refl _ _) (fun hne=>?_)
       repeat (refine head_q rfl (fun K hK=>?_);have hK2:=hide hK;clear hK;go_simp;refine hK2.out _ ?_;clear hK2 K)
       refine head_l rfl ?_
       go_wp2_with (go_at_call 60;go_must (refine(dans_any gr P Q G H k _ A0 A1 A2 A3 _ _ AS l0 c0 l1 c1 l2 c2 l3 c3 _ _ _ _ n c a b y z un vn side (HG.out.ext hED) (h0.ext hED) (h1.ext hED) (h2.ext hED) (h3.ext hED) (hVu'.ext hTd) (hVv.ext hTd) (HM.out.ext hED) HFall.out hP hQ hk (by omega) hn).mono ?_);rw[←Hch.out];rintro e v1 ⟨A20,l20,c20,rfl,hV20,hu1⟩)
       refine⟨Cls (Ext _),fun _ h=>h,⟨⟨_,hu1⟩,rfl⟩,?_⟩
       repeat (refine head_q rfl (fun K hK=>?_);have hK2:=hide hK;clear hK;go_simp;refine hK2.out _ ?_;clear hK2 K)
       refine head_l rfl ?_
       go_wp2_with (go_at_call 15;go_must (refine(cmp_any _ _ ch ask k _ hV20 (hVc.ext (hTd.trans hu1)) hFh hFc (by omega)).mono ?_);rintro e v2 ⟨rfl,hu2⟩;replace hu2:=hu1.trans hu2;rw[hx])
       refine⟨Cls (Ext _),fun _ h=>h,⟨⟨_,hu2⟩,rfl⟩,?_⟩
       repeat (refine head_q rfl (fun K hK=>?_);have hK2:=hide hK;clear hK;go_simp;refine hK2.out _ ?_;clear hK2 K)
       have hG:=hED.trans hu2
       clear y0 y1 y2 y3 y4 y5 y6
       refine head_nil ?_
       try simp only[List.drop_succ_cons,List.drop_zero]
       go_wp2_with fail
       go_ret
       exact⟨by first | rfl | exact congrArg (fun b=>Ending.returned (.bool b)) hx0,hG⟩
end
end Go.Proofs.YtdohmikoafkniaaGreat
