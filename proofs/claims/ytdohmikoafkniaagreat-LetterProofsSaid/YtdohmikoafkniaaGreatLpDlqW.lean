/- Equal exponents: the document's Verify, walked. -/
import Derived.Test.YtdohmikoafkniaaGreatLpDlqR
import Derived.Test.YtdohmikoafkniaaGreatLpSgnV
namespace Go.Proofs.YtdohmikoafkniaaGreat
set_option linter.unusedSimpArgs false
set_option linter.unusedVariables false
open Go.RowKit
open Nt Sha
attribute [local go_sem] steady steadyUpon Cls same_cell anyW
attribute [local irreducible] wpHead wpTree wpHeadR sum chalOf ansN
theorem opn_mem {P Q a y s c:Nat} (ha:memB P Q a=true) (hy:memB P Q y=true) (hP:2≤P) (hQ:64<Q):memB P Q (opn P Q a y s c)=true:=by
 have ga:=gok_of ha hP hQ
 have gy:=gok_of hy hP hQ
 unfold opn
 refine mem_of ga ?_
 have h1:(a^s)^Q % P=1:=by rw[←Nat.pow_mul,Nat.mul_comm,Nat.pow_mul];exact one_pow_mod hP ga.one
 have h2:((y^(Q - 1) % P)^c)^Q % P=1:=by
  rw[←Nat.pow_mul,Nat.mul_comm,Nat.pow_mul]
  refine one_pow_mod hP ?_
  rw[←Nat.pow_mod,←Nat.pow_mul,Nat.mul_comm,Nat.pow_mul]
  exact one_pow_mod hP gy.one
 rw[Nat.mul_pow,Nat.mul_mod,h1,h2]
 exact Nat.mod_eq_of_lt (by omega)
section
variable (w : World) (vg : Value) (P Q G H : Nat)
set_option maxRecDepth 100000 in
set_option maxHeartbeats 8000000 in
theorem rdver_any (vc:Value) (A D:Option Addr) (n c m d:Nat) (a b y z:Nat) (side prf:List (BitVec 8)) (h:RGrpV w vg P Q G H) (hC:RCl w vc a b y z) (hM:Pt.ok w ⟨A,n,c,side⟩) (hS:Pt.ok w ⟨D,m,d,prf⟩) (hP2:2≤P) (hQ64:64<Q) (hFP:blen P≤1024) (hFQ:blen Q≤1024) (hFa:blen a≤1024) (hFb:blen b≤1024) (hFy:blen y≤1024) (hFz:blen z≤1024) (hn:n≤1000000) (hz128:byteSz Q≤128):
 Calls Tryz.prog 113 #[vg,vc,.slice A n c,.slice D m d] w fun e w'=>e=.returned (.bool (dverB P Q a b y z side prf))∧Ext w w':=by
 have hG:=h
 obtain⟨A1,l1,c1,A2,l2,c2,A3,l3,c3,A4,l4,c4,rfl,hg1,hg2,hg3,hg4⟩:=h
 obtain⟨E0,i0,j0,E1,i1,j1,E2,i2,j2,E3,i3,j3,rfl,hC0,hC1,hC2,hC3⟩:=hC
 have HG:=hide hG
 have HM:=hide hM
 have HS:=hide hS
 obtain⟨zz,hz⟩:∃z,z=byteSz Q:=⟨_,rfl⟩
 obtain⟨N2,hN2⟩:∃N2,N2=2*byteSz Q:=⟨_,rfl⟩
 have hNz:N2=zz+zz:=by omega
 have hz128':zz≤128:=by omega
 have h2z:(2:Int)*(zz:Int)=(N2:Int):=by omega
 obtain⟨t,ht⟩:∃t,t=dverB P Q a b y z side prf:=⟨_,rfl⟩
 rw[←ht]
 obtain⟨ns,hns⟩:∃ns,ns=[a,b,y,z]:=⟨_,rfl⟩
 obtain⟨sl,hsl4⟩:∃sl,sl=[Value.slice E0 i0 j0,.slice E1 i1 j1,.slice E2 i2 j2,.slice E3 i3 j3]:=⟨_,rfl⟩
 have hag:(.agg #[.slice E0 i0 j0,.slice E1 i1 j1,.slice E2 i2 j2,.slice E3 i3 j3]:Value)=.agg (Array.ofFn fun i:Fin 4=>gat sl i):=by rw[hsl4];rfl
 have hrv:∀q,q<4→RefV w (gat sl q) (gat ns q):=fun q hq=>by
   rw[hsl4,hns]
   match q,hq with
   | 0,_=>exact hC0
   | 1,_=>exact hC1
   | 2,_=>exact hC2
   | 3,_=>exact hC3
 have hfl:∀q,q<4→blen (gat ns q)≤1024:=fun q hq=>by
   rw[hns]
   match q,hq with
   | 0,_=>exact hFa
   | 1,_=>exact hFb
   | 2,_=>exact hFy
   | 3,_=>exact hFz
 have hall:(∀q,q<4→memB P Q (gat ns q)=true)→memB P Q a=true∧memB P Q b=true∧memB P Q y=true∧memB P Q z=true:=fun h=>by
   rw[hns]at h
   exact⟨h 0 (by omega),h 1 (by omega),h 2 (by omega),h 3 (by omega)⟩
 have hnone:∀q,q<4→memB P Q (gat ns q)=false→t=false:=fun q hq hm=>by
   rw[ht]
   unfold dverB
   have h5:[a,b,y,z].all (memB P Q)=false:=by
    rw[List.all_eq_false]
    refine⟨gat ns q,?_,by rw[hm];decide⟩
    rw[hns]
    match q,hq with
    | 0,_=>simp[gat]
    | 1,_=>simp[gat]
    | 2,_=>simp[gat]
    | 3,_=>simp[gat]
   rw[h5,Bool.false_and]
 have Hz:=hide hz
 have HN:=hide hN2
 have HNz:=hide hNz
 have hNm:N2≤256:=by omega
 have Ht:=hide ht
 have Hag:=hide hag
 have Hrv:=hide hrv
 have Hfl:=hide hfl
 have Hall:=hide hall
 have Hnone:=hide hnone
 clear hz hN2 hNz ht hG hM hS hz128 hag hrv hfl hall hnone hns hsl4
 go_enter Tryz.func113,Tryz.ntmps113
 obtain⟨W,hW⟩:∃W,W=(w.alloc (.cells #[.slice A1 l1 c1,.slice A2 l2 c2,.slice A3 l3 c3,.slice A4 l4 c4] 30)).alloc (.cells #[.slice E0 i0 j0,.slice E1 i1 j1,.slice E2 i2 j2,.slice E3 i3 j3] 48):=⟨_,rfl⟩
 have b4:Blk W w.heap.size 30 #[.slice A1 l1 c1,.slice A2 l2 c2,.slice A3 l3 c3,.slice A4 l4 c4]:=by rw[hW];exact(Blk.new _ _ _).ext ((Upd.refl _ _).alloc _)
 have b5:Blk W (w.heap.size+1) 48 #[.slice E0 i0 j0,.slice E1 i1 j1,.slice E2 i2 j2,.slice E3 i3 j3]:=by rw[hW];exact Blk.new_at (by simp)
 have hE:Ext w W:=by rw[hW];exact((Upd.refl _ w).alloc _).alloc _
 have q0:=b4.at 0 rfl
 have q1:=b4.at 1 rfl
 have q2:=b4.at 2 rfl
 have q3:=b4.at 3 rfl
 rw[hW]at q0 q1 q2 q3
 go_wp2_with fail
 clear q0 q1 q2 q3
 rw[←hW]
 refine(rwidth_any _ _ P Q G H (HG.out.ext hE) (by omega)).mono ?_
 rw[←Hz.out]
 rintro e w1 ⟨rfl,hU1⟩
 have b4':=b4.ext hU1
 have b5':=b5.ext hU1
 have hE1:=hE.trans hU1
 have x0:=b5'.at 0 rfl
 have x1:=b5'.at 1 rfl
 have x2:=b5'.at 2 rfl
 have x3:=b5'.at 3 rfl
 clear b4 b5 hE hU1 hW
 go_wp2_with fail
 clear x0 x1 x2 x3
 rw[Hag.out]
 refine name_w (fun X hX=>?_)
 subst hX
 go_loopw [27,11] (fun i v wx=>∃j:Nat,j≤4∧i=.int .i64 (j:Int)∧Hid (∀q,q<j→memB P Q (gat ns q)=true)∧Ext X wx) (fun i _ _=>4 - (intOf i).toNat)
 case atStart=>exact⟨0,Nat.zero_le _,rfl,hide (fun q hq=>absurd hq (by omega)),Upd.refl _ _⟩
 case round=>
  obtain⟨j,hj,rfl,hallj,hXr⟩:=hrel
  by_cases hlt:j<4
  case pos=>
   have hlti:(j:Int)<4:=by omega
   have h0i:(0:Int)≤(j:Int):=by omega
   have hix:=fun (w:World)=>run_index_arr (P:=Tryz.prog) (T:=207) (e:=28) (n:=4) (by kernel_rfl) (by kernel_rfl) (de:=.slice 4) (by kernel_rfl) rfl (fun i=>gat sl i) hlt .i64 w
   have hRj:=Hrv.out j hlt
   have hFj:=Hfl.out j hlt
   obtain⟨vj,hvj⟩:∃v,v=gat sl j:=⟨_,rfl⟩
   obtain⟨xj,hxj⟩:∃v,v=gat ns j:=⟨_,rfl⟩
   rw[←hvj]at hix hRj
   rw[←hxj]at hRj hFj
   have Hxj:=hide hxj
   have b4r:=b4'.ext hXr
   have q0:=b4r.at 0 rfl
   have q1:=b4r.at 1 rfl
   have q2:=b4r.at 2 rfl
   have q3:=b4r.at 3 rfl
   clear hvj hxj
   go_wp2_with fail
   clear hix q0 q1 q2 q3
   refine(rmember_any _ _ P Q G H _ xj (HG.out.ext (hE1.trans hXr)) (hRj.ext (hE1.trans hXr)) hFP hFQ hFj (by omega)).mono ?_
   rintro e w2 ⟨rfl,hU2⟩
   have hX2:=hXr.trans hU2
   cases hmem:memB P Q xj with
   | false=>
     obtain rfl:t=false:=Hnone.out j hlt (by rw[←Hxj.out];exact hmem)
     have hEf:=hE1.trans hX2
     go_wp2_with fail
     go_ret
     exact⟨rfl,hEf⟩
   | true=>
     have Hmem:=hide hmem
     clear hmem
     go_wp2_with fail
     go_roundw
     case rel=>
      refine⟨j+1,by omega,by go_num,hide (fun q hq=>?_),hX2⟩
      by_cases hqj:q<j
      · exact hallj.out q hqj
      · obtain rfl:q=j:=by omega
        rw[←Hxj.out];exact Hmem.out
     case measure=>simp[intOf];omega
  case neg=>
   obtain rfl:j=4:=by omega
   have hlti:¬(((4:Nat):Int)<4):=by omega
   generalize (Value.agg (Array.ofFn fun i:Fin 4=>gat sl i))=vag
   obtain⟨hma,hmb,hmy,hmz⟩:=Hall.out hallj.out
   have Hma:=hide hma
   have Hmb:=hide hmb
   have Hmy:=hide hmy
   have Hmz:=hide hmz
   have b4r:=b4'.ext hXr
   have b5r:=b5'.ext hXr
   have hEr:=hE1.trans hXr
   clear b4' b5' hE1 hXr Hall Hnone Hrv Hfl Hag hallj hma hmb hmy hmz
   by_cases hm:m=N2
   case neg=>
    have hne:¬((m:Int)=(N2:Int)):=by omega
    obtain rfl:t=false:=by rw[Ht.out];exact dverB_len (by rw[show prf.length=m from HS.out.2.1,←HN.out];exact hm)
    go_wp2_with fail
    go_ret
    exact⟨rfl,hEr⟩
   subst hm
   obtain⟨cb,hcb⟩:∃b,b=prf.take zz:=⟨_,rfl⟩
   obtain⟨sb,hsb⟩:∃b,b=prf.drop zz:=⟨_,rfl⟩
   have hcl:cb.length=zz:=by rw[hcb,List.length_take,show prf.length=m from HS.out.2.1,HNz.out];omega
   have hsl:sb.length=zz:=by rw[hsb,List.length_drop,show prf.length=m from HS.out.2.1,HNz.out];omega
   obtain⟨ask,hask⟩:∃x,x=ofB cb:=⟨_,rfl⟩
   obtain⟨ss,hss⟩:∃x,x=ofB sb:=⟨_,rfl⟩
   have hFc:blen ask≤1024:=by rw[hask];exact Nat.le_trans (Fit.blen (fit_bs128 (k:=32) (n:=128) (by omega) (by omega))) (by omega)
   have hFs:blen ss≤1024:=by rw[hss];exact Nat.le_trans (Fit.blen (fit_bs128 (k:=32) (n:=128) (by omega) (by omega))) (by omega)
   have htt:t=(decide (ask<Q) && (decide (ss<Q) && decide (ansN P Q [a,b,y,z,opn P Q a y ss ask,opn P Q b z ss ask] side=ask))):=by
    have h5:[a,b,y,z].all (memB P Q)=true:=by simp only[List.all_cons,List.all_nil,Hma.out,Hmb.out,Hmy.out,Hmz.out];rfl
    rw[Ht.out];unfold dverB
    rw[←Hz.out,←hcb,←hsb,←hask,←hss,h5,decide_eq_true (show prf.length=2*zz by have h1:prf.length=m:=HS.out.2.1;have:=HNz.out;omega),Bool.true_and,Bool.true_and]
   have Htt:=hide htt
   have hsd:zz≤d:=by have h1:m≤d:=HS.out.2.2.1;have:=HNz.out;omega
   have hs1:∀w,(Instr.sliceAt 23 (.slice D m d) none (some (.int .i64 (zz:Int))) none).run Tryz.prog w=.ok (.slice D zz d) w:=fun w=>run_cut_h Tryz.n_el8.under Tryz.n_sz8 D m d zz .i64 hsd w
   have hs2:∀w,(Instr.sliceAt 23 (.slice D m d) (some (.int .i64 (zz:Int))) none none).run Tryz.prog w=.ok (.slice (shA D d zz) zz (d - zz)) w:=fun w=>by
     have:=run_cut_l Tryz.n_el8.under Tryz.n_sz8 D m d zz .i64 (by have:=HNz.out;omega) w
     rw[show m - zz=zz by have:=HNz.out;omega]at this
     exact this
   have hSc:Sl by8 w D cb:=by rw[hcb];exact HS.out.1.take zz
   have hSs:Sl by8 w (shA D d zz) sb:=by rw[hsb];exact HS.out.1.shA (show prf.length≤d from Nat.le_trans (Nat.le_of_eq HS.out.2.1) HS.out.2.2.1)
   have HSc:=hide hSc
   have HSs:=hide hSs
   have Hcl:=hide hcl
   have Hsl:=hide hsl
   have Hask:=hide hask
   have Hss:=hide hss
   clear htt hSc hSs hcl hsl hcb hsb hask hss hsd
   go_wp2_with fail
   refine name_w (fun X hX=>?_)
   subst hX
   have hXd:Ext X X.drew:=(Upd.refl _ _).drew
   have hED:=hEr.trans hXd
   refine wp_region_plan (Ext _) 9 [(false,0),(false,1),(false,2),(false,4),(false,5),(false,6),(true,3),(true,7),(false,8)] (by kernel_rfl) (by kernel_rfl) (Upd.refl _ _) (fun hne=>?_)
   repeat (refine head_q rfl (fun K hK=>?_);have hK2:=hide hK;clear hK;go_simp;refine hK2.out _ ?_;clear hK2 K)
   refine head_l rfl ?_
   go_wp2_with (go_at_call 72;go_must (refine(rof_any D zz d cb _ Hcl.out (by omega) (HSc.out.ext hED)).mono ?_);rw[←Hask.out];rintro e v1 ⟨A6,l6,c6,rfl,hR6,hv1⟩)
   refine⟨Cls (Ext _),fun _ h=>h,⟨⟨_,hv1⟩,rfl⟩,?_⟩
   repeat (refine head_q rfl (fun K hK=>?_);have hK2:=hide hK;clear hK;go_simp;refine hK2.out _ ?_;clear hK2 K)
   refine head_l rfl ?_
   go_wp2_with (go_at_call 72;go_must (refine(rof_any (shA D d zz) zz (d - zz) sb _ Hsl.out (by omega) (HSs.out.ext (hED.trans hv1))).mono ?_);rw[←Hss.out];rintro e v2 ⟨A7,l7,c7,rfl,hR7,hv2⟩;have hv2g:=hv1.trans hv2)
   refine⟨Cls (Ext _),fun _ h=>h,⟨⟨_,hv2g⟩,rfl⟩,?_⟩
   repeat (refine head_q rfl (fun K hK=>?_);have hK2:=hide hK;clear hK;go_simp;refine hK2.out _ ?_;clear hK2 K)
   have hX2:=hXd.trans hv2g
   have b4':=b4r.ext hX2
   have b5':=b5r.ext hX2
   have hE4:=hEr.trans hX2
   have hRc:=hR6.ext hv2
   have q1:=b4'.at 1 rfl
   clear b4r b5r hEr hED hXd hv1 hv2 hv2g hX2 hR6 hs1 hs2
   refine head_nil ?_
   try simp only[List.drop_succ_cons,List.drop_zero]
   go_wp2_with fail
   refine(rcmp_any _ _ ask Q 1024 _ hRc (hg2.ext hE4) hFc hFQ (by omega)).mono ?_
   rintro e w5 ⟨rfl,hU5⟩
   by_cases hcQ:ask<Q
   case neg=>
    obtain⟨x,hx,hx0⟩:∃x,cmpI ask Q=x∧(0:Int)≤x:=⟨_,rfl,by unfold cmpI;rw[if_neg hcQ];split<;>omega⟩
    rw[hx]
    have hEf:=hE4.trans hU5
    obtain rfl:t=false:=by rw[Htt.out,decide_eq_false hcQ];rfl
    go_wp2_with fail
    go_ret
    exact⟨rfl,hEf⟩
   rw[cmpI_lt hcQ]
   have hE5:=hE4.trans hU5
   have b4q:=b4'.ext hU5
   have q1':=b4q.at 1 rfl
   clear q1
   go_wp2_with fail
   refine(rcmp_any _ _ ss Q 1024 _ (hR7.ext hU5) (hg2.ext hE5) hFs hFQ (by omega)).mono ?_
   rintro e w6 ⟨rfl,hU6⟩
   by_cases hsQ:ss<Q
   case neg=>
    obtain⟨x,hx,hx0⟩:∃x,cmpI ss Q=x∧(0:Int)≤x:=⟨_,rfl,by unfold cmpI;rw[if_neg hsQ];split<;>omega⟩
    rw[hx]
    have hEf:=hE5.trans hU6
    obtain rfl:t=false:=by rw[Htt.out,decide_eq_false hsQ];simp
    go_wp2_with fail
    go_ret
    exact⟨rfl,hEf⟩
   rw[cmpI_lt hsQ]
   have hEY:=hE5.trans hU6
   have b4Y:=b4q.ext hU6
   have b5Y:=b5'.ext (hU5.trans hU6)
   have hRcY:=hRc.ext (hU5.trans hU6)
   have hRsY:=hR7.ext (hU5.trans hU6)
   clear q1' b4q b4' b5' hE5 hE4 hU5 hU6 hRc hR7
   go_wp2_with fail
   refine name_w (fun Y hY=>?_)
   subst hY
   have hYd:Ext Y Y.drew:=(Upd.refl _ _).drew
   have hED:=hEY.trans hYd
   have y0:=fun y:Wd (Ext Y.drew)=>y.ok.cellv ((b4Y.ext hYd).at 0 rfl)
   have y1:=fun y:Wd (Ext Y.drew)=>y.ok.cellv ((b4Y.ext hYd).at 1 rfl)
   have y2:=fun y:Wd (Ext Y.drew)=>y.ok.cellv ((b4Y.ext hYd).at 2 rfl)
   have y3:=fun y:Wd (Ext Y.drew)=>y.ok.cellv ((b4Y.ext hYd).at 3 rfl)
   have x0:=fun y:Wd (Ext Y.drew)=>y.ok.cellv ((b5Y.ext hYd).at 0 rfl)
   have x1:=fun y:Wd (Ext Y.drew)=>y.ok.cellv ((b5Y.ext hYd).at 1 rfl)
   have x2:=fun y:Wd (Ext Y.drew)=>y.ok.cellv ((b5Y.ext hYd).at 2 rfl)
   have x3:=fun y:Wd (Ext Y.drew)=>y.ok.cellv ((b5Y.ext hYd).at 3 rfl)
   obtain⟨hiP,hiI⟩:=inv_of (memB_lt Hmy.out).2.2 hP2 hQ64
   obtain⟨yi,hyi⟩:∃b,b=y^(Q - 1) % P:=⟨_,rfl⟩
   rw[←hyi]at hiP hiI
   have hfi:blen yi≤1024:=Nat.le_trans (blen_mono (Nat.le_of_lt hiP)) hFP
   have hfm:∀x,blen (x % P)≤1024:=fun x=>Nat.le_trans (blen_mono (Nat.le_of_lt (Nat.mod_lt _ (by omega)))) hFP
   obtain⟨u1,hu1⟩:∃x,x=a^ss % P:=⟨_,rfl⟩
   obtain⟨u2,hu2⟩:∃x,x=yi^ask % P:=⟨_,rfl⟩
   have hf1:blen u1≤1024:=by rw[hu1];exact hfm _
   have hf2:blen u2≤1024:=by rw[hu2];exact hfm _
   obtain⟨un,hun⟩:∃x,x=opn P Q a y ss ask:=⟨_,rfl⟩
   have hua:u1*u2 % P=un:=by rw[hun,hu1,hu2,←Nat.mul_mod,hyi];rfl
   have hmun:memB P Q un=true:=by rw[hun];exact opn_mem Hma.out Hmy.out hP2 hQ64
   have Hu1:=hide hu1
   have Hu2:=hide hu2
   have Hua:=hide hua
   have Hmun:=hide hmun
   have Hun:=hide hun
   have HiI:=hide hiI
   clear hu1 hu2 hua hmun hun hfm hiI hyi
   refine wp_region_plan (Ext _) 13 [(false,0),(false,1),(false,2),(false,3),(false,4),(false,6),(false,7),(false,8),(false,9),(false,11),(true,5),(true,10),(true,12)] (by kernel_rfl) (by kernel_rfl) (Upd.refl _ _) (fun hne=>?_)
   repeat (refine head_q rfl (fun K hK=>?_);have hK2:=hide hK;clear hK;go_simp;refine hK2.out _ ?_;clear hK2 K)
   refine head_l rfl ?_
   go_wp2_with (go_at_call 66;go_must (refine(rgexp_any _ _ P Q G H _ _ a ss (HG.out.ext hED) (hC0.ext hED) (hRsY.ext hYd) (by omega) (by omega) (by omega) (by omega)).mono ?_);rw[←Hu1.out];rintro e v1 ⟨A8,l8,c8,rfl,hR8,hv1⟩)
   refine⟨Cls (Ext _),fun _ h=>h,⟨⟨_,hv1⟩,rfl⟩,?_⟩
   repeat (refine head_q rfl (fun K hK=>?_);have hK2:=hide hK;clear hK;go_simp;refine hK2.out _ ?_;clear hK2 K)
   refine head_l rfl ?_
   go_wp2_with (go_at_call 110;go_must (refine(rginv_any _ _ P Q G H _ y yi (HG.out.ext (hED.trans hv1)) (hC2.ext (hED.trans hv1)) hFP (by omega) hP2 hiP HiI.out).mono ?_);rintro e v2 ⟨A9,l9,c9,rfl,hR9,hv2⟩;have hv2g:=hv1.trans hv2)
   refine⟨Cls (Ext _),fun _ h=>h,⟨⟨_,hv2g⟩,rfl⟩,?_⟩
   repeat (refine head_q rfl (fun K hK=>?_);have hK2:=hide hK;clear hK;go_simp;refine hK2.out _ ?_;clear hK2 K)
   refine head_l rfl ?_
   go_wp2_with (go_at_call 66;go_must (refine(rgexp_any _ _ P Q G H _ _ yi ask (HG.out.ext (hED.trans hv2g)) hR9 (hRcY.ext (hYd.trans hv2g)) (by omega) (by omega) (by omega) (by omega)).mono ?_);rw[←Hu2.out];rintro e v3 ⟨A10,l10,c10,rfl,hR10,hv3⟩;have hv3g:=hv2g.trans hv3)
   refine⟨Cls (Ext _),fun _ h=>h,⟨⟨_,hv3g⟩,rfl⟩,?_⟩
   repeat (refine head_q rfl (fun K hK=>?_);have hK2:=hide hK;clear hK;go_simp;refine hK2.out _ ?_;clear hK2 K)
   clear y0 y1 y2 y3 x0 x1 x2 x3
   refine head_nil ?_
   try simp only[List.drop_succ_cons,List.drop_zero]
   go_wp2_with fail
   refine(rgmul_any _ _ P Q G H _ _ u1 u2 (HG.out.ext (hED.trans hv3g)) (hR8.ext (hv2.trans hv3)) hR10 hFP hf1 hf2 (by omega)).mono ?_
   rw[Hua.out]
   rintro e v4 ⟨A11,l11,c11,rfl,hR11,hv4⟩
   have hY4:=hYd.trans (hv3g.trans hv4)
   have hEZ:=hEY.trans hY4
   have b4Z:=b4Y.ext hY4
   have b5Z:=b5Y.ext hY4
   have hRcZ:=hRcY.ext hY4
   have hRsZ:=hRsY.ext hY4
   clear hYd hED hv1 hv2 hv2g hv3 hv3g hv4 hR8 hR9 hR10 b4Y b5Y hEY hRcY hRsY hf1 hf2 hfi Hu1 Hu2 Hua HiI hiP
   have hRu:=hR11
   clear hR11 hY4
   go_wp2_with fail
   refine name_w (fun Z hZ=>?_)
   subst hZ
   have hYd:Ext Z Z.drew:=(Upd.refl _ _).drew
   have hED:=hEZ.trans hYd
   have y0:=fun y:Wd (Ext Z.drew)=>y.ok.cellv ((b4Z.ext hYd).at 0 rfl)
   have y1:=fun y:Wd (Ext Z.drew)=>y.ok.cellv ((b4Z.ext hYd).at 1 rfl)
   have y2:=fun y:Wd (Ext Z.drew)=>y.ok.cellv ((b4Z.ext hYd).at 2 rfl)
   have y3:=fun y:Wd (Ext Z.drew)=>y.ok.cellv ((b4Z.ext hYd).at 3 rfl)
   have x0:=fun y:Wd (Ext Z.drew)=>y.ok.cellv ((b5Z.ext hYd).at 0 rfl)
   have x1:=fun y:Wd (Ext Z.drew)=>y.ok.cellv ((b5Z.ext hYd).at 1 rfl)
   have x2:=fun y:Wd (Ext Z.drew)=>y.ok.cellv ((b5Z.ext hYd).at 2 rfl)
   have x3:=fun y:Wd (Ext Z.drew)=>y.ok.cellv ((b5Z.ext hYd).at 3 rfl)
   obtain⟨hiP,hiI⟩:=inv_of (memB_lt Hmz.out).2.2 hP2 hQ64
   obtain⟨yi,hyi⟩:∃b,b=z^(Q - 1) % P:=⟨_,rfl⟩
   rw[←hyi]at hiP hiI
   have hfi:blen yi≤1024:=Nat.le_trans (blen_mono (Nat.le_of_lt hiP)) hFP
   have hfm:∀x,blen (x % P)≤1024:=fun x=>Nat.le_trans (blen_mono (Nat.le_of_lt (Nat.mod_lt _ (by omega)))) hFP
   obtain⟨u1,hu1⟩:∃x,x=b^ss % P:=⟨_,rfl⟩
   obtain⟨u2,hu2⟩:∃x,x=yi^ask % P:=⟨_,rfl⟩
   have hf1:blen u1≤1024:=by rw[hu1];exact hfm _
   have hf2:blen u2≤1024:=by rw[hu2];exact hfm _
   obtain⟨vn,hvn⟩:∃x,x=opn P Q b z ss ask:=⟨_,rfl⟩
   have hua:u1*u2 % P=vn:=by rw[hvn,hu1,hu2,←Nat.mul_mod,hyi];rfl
   have hmvn:memB P Q vn=true:=by rw[hvn];exact opn_mem Hmb.out Hmz.out hP2 hQ64
   have Hu1:=hide hu1
   have Hu2:=hide hu2
   have Hua:=hide hua
   have Hmvn:=hide hmvn
   have Hvn:=hide hvn
   have HiI:=hide hiI
   clear hu1 hu2 hua hmvn hvn hfm hiI hyi
   refine wp_region_plan (Ext _) 13 [(false,0),(false,1),(false,2),(false,3),(false,4),(false,6),(false,7),(false,8),(false,9),(false,11),(true,5),(true,10),(true,12)] (by kernel_rfl) (by kernel_rfl) (Upd.refl _ _) (fun hne=>?_)
   repeat (refine head_q rfl (fun K hK=>?_);have hK2:=hide hK;clear hK;go_simp;refine hK2.out _ ?_;clear hK2 K)
   refine head_l rfl ?_
   go_wp2_with (go_at_call 66;go_must (refine(rgexp_any _ _ P Q G H _ _ b ss (HG.out.ext hED) (hC1.ext hED) (hRsZ.ext hYd) (by omega) (by omega) (by omega) (by omega)).mono ?_);rw[←Hu1.out];rintro e v1 ⟨A8,l8,c8,rfl,hR8,hv1⟩)
   refine⟨Cls (Ext _),fun _ h=>h,⟨⟨_,hv1⟩,rfl⟩,?_⟩
   repeat (refine head_q rfl (fun K hK=>?_);have hK2:=hide hK;clear hK;go_simp;refine hK2.out _ ?_;clear hK2 K)
   refine head_l rfl ?_
   go_wp2_with (go_at_call 110;go_must (refine(rginv_any _ _ P Q G H _ z yi (HG.out.ext (hED.trans hv1)) (hC3.ext (hED.trans hv1)) hFP (by omega) hP2 hiP HiI.out).mono ?_);rintro e v2 ⟨A9,l9,c9,rfl,hR9,hv2⟩;have hv2g:=hv1.trans hv2)
   refine⟨Cls (Ext _),fun _ h=>h,⟨⟨_,hv2g⟩,rfl⟩,?_⟩
   repeat (refine head_q rfl (fun K hK=>?_);have hK2:=hide hK;clear hK;go_simp;refine hK2.out _ ?_;clear hK2 K)
   refine head_l rfl ?_
   go_wp2_with (go_at_call 66;go_must (refine(rgexp_any _ _ P Q G H _ _ yi ask (HG.out.ext (hED.trans hv2g)) hR9 (hRcZ.ext (hYd.trans hv2g)) (by omega) (by omega) (by omega) (by omega)).mono ?_);rw[←Hu2.out];rintro e v3 ⟨A10,l10,c10,rfl,hR10,hv3⟩;have hv3g:=hv2g.trans hv3)
   refine⟨Cls (Ext _),fun _ h=>h,⟨⟨_,hv3g⟩,rfl⟩,?_⟩
   repeat (refine head_q rfl (fun K hK=>?_);have hK2:=hide hK;clear hK;go_simp;refine hK2.out _ ?_;clear hK2 K)
   clear y0 y1 y2 y3 x0 x1 x2 x3
   refine head_nil ?_
   try simp only[List.drop_succ_cons,List.drop_zero]
   go_wp2_with fail
   refine(rgmul_any _ _ P Q G H _ _ u1 u2 (HG.out.ext (hED.trans hv3g)) (hR8.ext (hv2.trans hv3)) hR10 hFP hf1 hf2 (by omega)).mono ?_
   rw[Hua.out]
   rintro e v4 ⟨A11,l11,c11,rfl,hR11,hv4⟩
   have hY4:=hYd.trans (hv3g.trans hv4)
   have hEK:=hEZ.trans hY4
   have b4K:=b4Z.ext hY4
   have b5K:=b5Z.ext hY4
   have hRcK:=hRcZ.ext hY4
   have hRsK:=hRsZ.ext hY4
   clear hYd hED hv1 hv2 hv2g hv3 hv3g hv4 hR8 hR9 hR10 b4Z b5Z hEZ hRcZ hRsZ hf1 hf2 hfi Hu1 Hu2 Hua HiI hiP
   have hRuK:=hRu.ext hY4
   have q0:=b4K.at 0 rfl
   have q1:=b4K.at 1 rfl
   have q2:=b4K.at 2 rfl
   have q3:=b4K.at 3 rfl
   have p0:=b5K.at 0 rfl
   have p1:=b5K.at 1 rfl
   have p2:=b5K.at 2 rfl
   have p3:=b5K.at 3 rfl
   have hmem:[a,b,y,z,un,vn].all (memB P Q)=true:=by simp only[List.all_cons,List.all_nil,Hma.out,Hmb.out,Hmy.out,Hmz.out,Hmun.out,Hmvn.out];rfl
   have Hmem:=hide hmem
   clear hmem hRu hY4
   go_wp2_with fail
   refine(rans_any 1024 _ _ P Q G H _ _ _ a b y z un vn A n c side (HG.out.ext hEK) ⟨E0,i0,j0,E1,i1,j1,E2,i2,j2,E3,i3,j3,rfl,hC0.ext hEK,hC1.ext hEK,hC2.ext hEK,hC3.ext hEK⟩ hRuK hR11 (HM.out.ext hEK) Hmem.out hFP hFQ (by omega) (by omega) (by omega) (by omega)).mono ?_
   obtain⟨ch,hch⟩:∃ch,ch=ansN P Q [a,b,y,z,un,vn] side:=⟨_,rfl⟩
   have hchQ:ch<Q:=by rw[hch];exact ansN_lt (by omega)
   have hFh:blen ch≤1024:=Nat.le_trans (blen_mono (Nat.le_of_lt hchQ)) hFQ
   obtain⟨x,hx,hx0⟩:∃x,cmpI ch ask=x∧(x == 0)=t:=⟨_,rfl,by rw[Htt.out,decide_eq_true hcQ,decide_eq_true hsQ,Bool.true_and,Bool.true_and,←Hun.out,←Hvn.out,←hch];exact cmpI_eq0 ch ask⟩
   rw[←hch]
   rintro e v5 ⟨A12,l12,c12,rfl,hR12,hv5⟩
   clear hch q0 q1 q2 q3 p0 p1 p2 p3
   go_wp2_with fail
   refine(rcmp_any _ _ ch ask 1024 _ hR12 (hRcK.ext hv5) hFh hFc (by omega)).mono ?_
   rw[hx]
   rintro e v6 ⟨rfl,hv6⟩
   have hEf:=(hEK.trans hv5).trans hv6
   go_wp2_with fail
   go_ret
   exact⟨by first | rfl | exact congrArg (fun b=>Ending.returned (.bool b)) hx0,hEf⟩
end
end Go.Proofs.YtdohmikoafkniaaGreat
