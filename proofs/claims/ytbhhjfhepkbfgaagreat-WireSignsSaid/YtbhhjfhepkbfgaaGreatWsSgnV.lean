/- Signatures of the document, walked: Member, Verify. -/
import Derived.Test.YtbhhjfhepkbfgaaGreatWsInvR
namespace Go.Proofs.YtbhhjfhepkbfgaaGreat
set_option linter.unusedSimpArgs false
set_option linter.unusedVariables false
open Go.RowKit
open Nt Sha
attribute [local go_sem] steady steadyUpon Cls same_cell
attribute [local irreducible] wpHead wpTree sum chalOf
theorem inv_pow {P Q y c:Nat} (hy:y^Q % P=1) (hP:2≤P) (hQ:64<Q) (hc:c≤Q):(y^(Q - 1) % P)^c % P=y^(Q - c) % P:=by
 have g:GOk P Q y:=⟨hy,hP,hQ⟩
 rw[←Nat.pow_mod,←Nat.pow_mul]
 refine g.cong ?_
 refine mod_cancel (C:=c) ?_
 have e1:(Q - 1)*c+c=Q*c:=by
  conv=>lhs;rw[←Nat.succ_mul]
  rw[show(Q - 1).succ=Q by omega]
 rw[e1,show Q - c+c=Q by omega,Nat.mul_mod_right,Nat.mod_self]
theorem inv_of {P Q y:Nat} (hy:y^Q % P=1) (hP:2≤P) (hQ:64<Q):y^(Q - 1) % P<P∧y*(y^(Q - 1) % P) % P=1:=by
 refine⟨Nat.mod_lt _ (by omega),?_⟩
 rw[Nat.mul_mod,Nat.mod_mod,←Nat.mul_mod,Nat.mul_comm,←Nat.pow_succ,show(Q - 1).succ=Q by omega]
 exact hy
section
variable (w : World) (v : Value) (P Q G H : Nat)
set_option maxRecDepth 100000 in
set_option maxHeartbeats 4000000 in
theorem rmember_any (va:Value) (a:Nat) (h:RGrpV w v P Q G H) (hVa:RefV w va a) (hFP:blen P≤1024) (hFQ:blen Q≤1024) (hFa:blen a≤1024) (hP0:0<P):
 Calls Tryz.prog 49 #[v,va] w fun e w'=>e=.returned (.bool (memB P Q a))∧Ext w w':=by
 obtain⟨A1,l1,c1,A2,l2,c2,A3,l3,c3,A4,l4,c4,rfl,h1,h2,h3,h4⟩:=h
 obtain⟨A5,l5,c5,xs,rfl, -⟩:=hVa.open_
 have hl5:=hVa.len
 obtain⟨t,ht⟩:∃t,t=memB P Q a:=⟨_,rfl⟩
 rw[←ht]
 have Ht:=hide ht
 clear ht
 by_cases hx0:a=0
 · obtain rfl:l5=0:=by rw[hl5,hx0];rfl
   obtain rfl:t=false:=by rw[Ht.out,hx0];exact GOk.mem0
   clear hl5
   go_enter Tryz.func49,Tryz.ntmps49
   go_wp2_with fail
   go_ret
   exact⟨rfl,(Upd.refl _ _).alloc _⟩
 have hlp:0<l5:=by
  rw[hl5]
  rcases Nat.eq_zero_or_pos (blen a)with h0 | h0
  · exact absurd (blen_eq_zero.1 h0) hx0
  · exact h0
 have hlpI:(0:Int)<(l5:Int):=by omega
 clear hl5
 go_enter Tryz.func49,Tryz.ntmps49
 have b1:Blk (w.alloc (.cells #[.slice A1 l1 c1,.slice A2 l2 c2,.slice A3 l3 c3,.slice A4 l4 c4] 34)) w.heap.size 34 #[.slice A1 l1 c1,.slice A2 l2 c2,.slice A3 l3 c3,.slice A4 l4 c4]:=Blk.new _ _ _
 have q0:=b1.at 0 rfl
 go_wp2_with fail
 clear q0
 refine name_c (fun W hW=>?_)
 rw[←hW]at b1
 have hE:Ext w W:=by rw[hW];exact(Upd.refl _ w).alloc _
 clear hW
 refine(rcmp_any _ _ a P 1024 _ (hVa.ext hE) (h1.ext hE) hFa hFP (by omega)).mono ?_
 rintro e w1 ⟨rfl,hU⟩
 by_cases hlt:a<P
 case neg=>
  obtain⟨x,hx,hx1⟩:∃x,cmpI a P=x∧¬x<0:=⟨_,rfl,by unfold cmpI;rw[if_neg hlt];split<;>omega⟩
  rw[hx]
  obtain rfl:t=false:=by rw[Ht.out];unfold memB;rw[decide_eq_false hlt,Bool.false_and,Bool.and_false]
  have hEf:=hE.trans hU
  go_wp2_with fail
  go_ret
  exact⟨rfl,hEf⟩
 rw[cmpI_lt hlt]
 have hE1:=hE.trans hU
 have b1':=b1.ext hU
 have q0:=b1'.at 0 rfl
 have q1:=b1'.at 1 rfl
 clear b1 hE hU
 go_wp2_with fail
 refine(rexp_any _ _ _ a Q P 1024 _ (hVa.ext hE1) (h2.ext hE1) (h1.ext hE1) hFa hFQ hFP (by omega) hP0).mono ?_
 rintro e w2 ⟨A7,l7,c7,rfl,hR7,hU2⟩
 go_wp2_with fail
 refine(rsmall_any 1 _ (by decide)).mono ?_
 rintro e w3 ⟨A8,l8,c8,rfl,hR8,hU3⟩
 obtain⟨x,hx,hx1⟩:∃x,cmpI (a^Q % P) 1=x∧(x == 0)=t:=⟨_,rfl,by
  rw[Ht.out];unfold memB;rw[decide_eq_true (show 0<a by omega),decide_eq_true hlt,Bool.true_and,Bool.true_and];exact cmpI_eq0 _ _⟩
 go_wp2_with fail
 refine(rcmp_any _ _ (a^Q % P) 1 1024 _ (hR7.ext hU3) hR8 (Nat.le_trans (blen_mono (Nat.le_of_lt (Nat.mod_lt _ hP0))) hFP) (by decide) (by omega)).mono ?_
 rw[hx]
 rintro e w4 ⟨rfl,hU4⟩
 have hEf:=((hE1.trans hU2).trans hU3).trans hU4
 go_wp2_with fail
 go_ret
 exact⟨by first | rfl | exact congrArg (fun b=>Ending.returned (.bool b)) hx1,hEf⟩
set_option maxRecDepth 100000 in
set_option maxHeartbeats 8000000 in
theorem rver_any (vy:Value) (y:Nat) (A D:Option Addr) (n c m d:Nat) (msg sig:List (BitVec 8)) (h:RGrpV w v P Q G H) (hVy:RefV w vy y) (hM:Pt.ok w ⟨A,n,c,msg⟩) (hS:Pt.ok w ⟨D,m,d,sig⟩) (hgok:GOk P Q G) (hFP:blen P≤1024) (hFQ:blen Q≤1024) (hFG:blen G≤1024) (hFy:blen y≤1024) (hn:n≤1000000) (hz128:byteSz Q≤128):
 Calls Tryz.prog 20 #[v,vy,.slice A n c,.slice D m d] w fun e w'=>e=.returned (.bool (verB P Q G y msg sig))∧Ext w w':=by
 have hG:=h
 obtain⟨A1,l1,c1,A2,l2,c2,A3,l3,c3,A4,l4,c4,rfl,hg1,hg2,hg3,hg4⟩:=h
 obtain⟨A5,l5,c5,xs,rfl, -⟩:=hVy.open_
 have HG:=hide hG
 have HM:=hide hM
 have HS:=hide hS
 have hP2:=hgok.two
 have hQ64:=hgok.sml
 obtain⟨z,hz⟩:∃z,z=byteSz Q:=⟨_,rfl⟩
 obtain⟨N2,hN2⟩:∃N2,N2=2*byteSz Q:=⟨_,rfl⟩
 have hNz:N2=z+z:=by omega
 have hz128':z≤128:=by omega
 have h2z:(2:Int)*(z:Int)=(N2:Int):=by omega
 obtain⟨t,ht⟩:∃t,t=verB P Q G y msg sig:=⟨_,rfl⟩
 rw[←ht]
 have Hz:=hide hz
 have HN:=hide hN2
 have HNz:=hide hNz
 have hNm:N2≤256:=by omega
 have Ht:=hide ht
 clear hz hN2 hNz ht hG hM hS hz128
 go_enter Tryz.func20,Tryz.ntmps20
 have b4:Blk (w.alloc (.cells #[.slice A1 l1 c1,.slice A2 l2 c2,.slice A3 l3 c3,.slice A4 l4 c4] 34)) w.heap.size 34 #[.slice A1 l1 c1,.slice A2 l2 c2,.slice A3 l3 c3,.slice A4 l4 c4]:=Blk.new _ _ _
 have q0:=b4.at 0 rfl
 have q1:=b4.at 1 rfl
 have q2:=b4.at 2 rfl
 have q3:=b4.at 3 rfl
 go_wp2_with fail
 clear q0 q1 q2 q3
 refine name_c (fun W hW=>?_)
 rw[←hW]at b4
 have hE:Ext w W:=by rw[hW];exact(Upd.refl _ w).alloc _
 clear hW
 refine(rwidth_any _ _ P Q G H (HG.out.ext hE) (by omega)).mono ?_
 rw[←Hz.out]
 rintro e w1 ⟨rfl,hU1⟩
 have b4':=b4.ext hU1
 have hE1:=hE.trans hU1
 clear b4 hE hU1
 by_cases hm:m=N2
 case neg=>
  have hne:¬((m:Int)=(N2:Int)):=by omega
  obtain rfl:t=false:=by rw[Ht.out];exact verB_len (by rw[show sig.length=m from HS.out.2.1,←HN.out];exact hm)
  go_wp2_with fail
  go_ret
  exact⟨rfl,hE1⟩
 subst hm
 have q0:=b4'.at 0 rfl
 have q1:=b4'.at 1 rfl
 have q2:=b4'.at 2 rfl
 have q3:=b4'.at 3 rfl
 go_wp2_with fail
 clear q0 q1 q2 q3
 refine(rmember_any _ _ P Q G H _ y (HG.out.ext hE1) (hVy.ext hE1) hFP hFQ hFy (by omega)).mono ?_
 rintro e w2 ⟨rfl,hU2⟩
 have hE2:=hE1.trans hU2
 have b4:=b4'.ext hU2
 clear b4' hU2 hE1
 cases hmem:memB P Q y with
 | false=>
   obtain rfl:t=false:=by rw[Ht.out];unfold verB;rw[hmem];simp
   go_wp2_with fail
   go_ret
   exact⟨rfl,hE2⟩
 | true=>
   have Hmem:=hide hmem
   obtain⟨cb,hcb⟩:∃b,b=sig.take z:=⟨_,rfl⟩
   obtain⟨sb,hsb⟩:∃b,b=sig.drop z:=⟨_,rfl⟩
   have hcl:cb.length=z:=by rw[hcb,List.length_take,show sig.length=m from HS.out.2.1,HNz.out];omega
   have hsl:sb.length=z:=by rw[hsb,List.length_drop,show sig.length=m from HS.out.2.1,HNz.out];omega
   obtain⟨cc,hcc⟩:∃x,x=ofB cb:=⟨_,rfl⟩
   obtain⟨ss,hss⟩:∃x,x=ofB sb:=⟨_,rfl⟩
   have hFc:blen cc≤1024:=by rw[hcc];exact Nat.le_trans (Fit.blen (fit_bs128 (k:=32) (n:=128) (by omega) (by omega))) (by omega)
   have hFs:blen ss≤1024:=by rw[hss];exact Nat.le_trans (Fit.blen (fit_bs128 (k:=32) (n:=128) (by omega) (by omega))) (by omega)
   have htt:t=(decide (cc<Q) && (decide (ss<Q) && decide (chalOf [sgnB,memBy P Q (G^ss*y^(Q - cc) % P),memBy P Q y,msg] Q=cc))):=by
    rw[Ht.out];unfold verB
    rw[←Hz.out,←hcb,←hsb,←hcc,←hss,hmem,decide_eq_true (show sig.length=2*z by have h1:sig.length=m:=HS.out.2.1;have:=HNz.out;omega),Bool.true_and,Bool.true_and]
   have Htt:=hide htt
   have hsd:z≤d:=by have h1:m≤d:=HS.out.2.2.1;have:=HNz.out;omega
   have hs1:∀w,(Instr.sliceAt 24 (.slice D m d) none (some (.int .i64 (z:Int))) none).run Tryz.prog w=.ok (.slice D z d) w:=fun w=>run_cut_h Tryz.n_el8.under Tryz.n_sz8 D m d z .i64 hsd w
   have hs2:∀w,(Instr.sliceAt 24 (.slice D m d) (some (.int .i64 (z:Int))) none none).run Tryz.prog w=.ok (.slice (shA D d z) z (d - z)) w:=fun w=>by
     have:=run_cut_l Tryz.n_el8.under Tryz.n_sz8 D m d z .i64 (by have:=HNz.out;omega) w
     rw[show m - z=z by have:=HNz.out;omega]at this
     exact this
   have hSc:Sl by8 w D cb:=by rw[hcb];exact HS.out.1.take z
   have hSs:Sl by8 w (shA D d z) sb:=by rw[hsb];exact HS.out.1.shA (show sig.length≤d from Nat.le_trans (Nat.le_of_eq HS.out.2.1) HS.out.2.2.1)
   have HSc:=hide hSc
   have HSs:=hide hSs
   have Hcl:=hide hcl
   have Hsl:=hide hsl
   have Hcc:=hide hcc
   have Hss:=hide hss
   obtain⟨hy0,hyP,hyQ⟩:=memB_lt hmem
   obtain⟨hbP,hbI⟩:=inv_of hyQ hP2 hQ64
   have hpw:=fun (hc:cc≤Q)=>inv_pow (c:=cc) hyQ hP2 hQ64 hc
   obtain⟨yi,hyi⟩:∃b,b=y^(Q - 1) % P:=⟨_,rfl⟩
   rw[←hyi]at hbP hbI hpw
   have HyQ:=hide hyQ
   have HbI:=hide hbI
   have Hpw:=hide hpw
   clear htt hSc hSs hcl hsl hcb hsb hcc hss hsd hmem hyQ hbI hpw hyi
   go_wp2_with fail
   refine name_w (fun X hX=>?_)
   subst hX
   have hXd:Ext X X.drew:=(Upd.refl _ _).drew
   have hED:=hE2.trans hXd
   refine wp_region_plan (Ext _) 9 [(false,0),(false,1),(false,2),(false,4),(false,5),(false,6),(true,3),(true,7),(false,8)] (by kernel_rfl) (by kernel_rfl) (Upd.refl _ _) (fun hne=>?_)
   repeat (refine head_q rfl (fun K hK=>?_);have hK2:=hide hK;clear hK;go_simp;refine hK2.out _ ?_;clear hK2 K)
   refine head_l rfl ?_
   go_wp2_with (go_at_call 50;go_must (refine(rof_any D z d cb _ Hcl.out (by omega) (HSc.out.ext hED)).mono ?_);rw[←Hcc.out];rintro e v1 ⟨A6,l6,c6,rfl,hR6,hv1⟩)
   refine⟨Cls (Ext _),fun _ h=>h,⟨⟨_,hv1⟩,rfl⟩,?_⟩
   repeat (refine head_q rfl (fun K hK=>?_);have hK2:=hide hK;clear hK;go_simp;refine hK2.out _ ?_;clear hK2 K)
   refine head_l rfl ?_
   go_wp2_with (go_at_call 50;go_must (refine(rof_any (shA D d z) z (d - z) sb _ Hsl.out (by omega) (HSs.out.ext (hED.trans hv1))).mono ?_);rw[←Hss.out];rintro e v2 ⟨A7,l7,c7,rfl,hR7,hv2⟩;have hv2g:=hv1.trans hv2)
   refine⟨Cls (Ext _),fun _ h=>h,⟨⟨_,hv2g⟩,rfl⟩,?_⟩
   repeat (refine head_q rfl (fun K hK=>?_);have hK2:=hide hK;clear hK;go_simp;refine hK2.out _ ?_;clear hK2 K)
   have hX2:=hXd.trans hv2g
   have b4':=b4.ext hX2
   have hE4:=hE2.trans hX2
   have hRc:=hR6.ext hv2
   have q1:=b4'.at 1 rfl
   clear b4 hE2 hED hXd hv1 hv2 hv2g hX2 hR6 hs1 hs2
   refine head_nil ?_
   try simp only[List.drop_succ_cons,List.drop_zero]
   go_wp2_with fail
   refine(rcmp_any _ _ cc Q 1024 _ hRc (hg2.ext hE4) hFc hFQ (by omega)).mono ?_
   rintro e w5 ⟨rfl,hU5⟩
   by_cases hcQ:cc<Q
   case neg=>
    obtain⟨x,hx,hx0⟩:∃x,cmpI cc Q=x∧(0:Int)≤x:=⟨_,rfl,by unfold cmpI;rw[if_neg hcQ];split<;>omega⟩
    rw[hx]
    have hEf:=hE4.trans hU5
    obtain rfl:t=false:=by rw[Htt.out,decide_eq_false hcQ];rfl
    go_wp2_with fail
    go_ret
    exact⟨rfl,hEf⟩
   rw[cmpI_lt hcQ]
   have hE5:=hE4.trans hU5
   have b4:=b4'.ext hU5
   have q1':=b4.at 1 rfl
   clear q1
   go_wp2_with fail
   refine(rcmp_any _ _ ss Q 1024 _ (hR7.ext hU5) (hg2.ext hE5) hFs hFQ (by omega)).mono ?_
   rintro e w6 ⟨rfl,hU6⟩
   by_cases hsQ:ss<Q
   case neg=>
    obtain⟨x,hx,hx0⟩:∃x,cmpI ss Q=x∧(0:Int)≤x:=⟨_,rfl,by unfold cmpI;rw[if_neg hsQ];split<;>omega⟩
    rw[hx]
    have hEf:=hE5.trans hU6
    obtain rfl:t=false:=by rw[Htt.out,decide_eq_false hsQ];simp
    go_wp2_with fail
    go_ret
    exact⟨rfl,hEf⟩
   rw[cmpI_lt hsQ]
   have hE6:=hE5.trans hU6
   have b6:=b4.ext hU6
   have hRc6:=hRc.ext (hU5.trans hU6)
   have hRs6:=hR7.ext (hU5.trans hU6)
   clear q1' b4 b4' hE5 hE4 hU5 hU6 hRc hR7
   go_wp2_with fail
   refine name_w (fun Y hY=>?_)
   subst hY
   have hYd:Ext Y Y.drew:=(Upd.refl _ _).drew
   have hED:=hE6.trans hYd
   have y0:=fun y:Wd (Ext Y.drew)=>y.ok.cellv ((b6.ext hYd).at 0 rfl)
   have y1:=fun y:Wd (Ext Y.drew)=>y.ok.cellv ((b6.ext hYd).at 1 rfl)
   have y2:=fun y:Wd (Ext Y.drew)=>y.ok.cellv ((b6.ext hYd).at 2 rfl)
   have y3:=fun y:Wd (Ext Y.drew)=>y.ok.cellv ((b6.ext hYd).at 3 rfl)
   have hfi:blen yi≤1024:=Nat.le_trans (blen_mono (Nat.le_of_lt hbP)) hFP
   have hfm:∀x,blen (x % P)≤1024:=fun x=>Nat.le_trans (blen_mono (Nat.le_of_lt (Nat.mod_lt _ (by omega)))) hFP
   obtain⟨u1,hu1⟩:∃x,x=G^ss % P:=⟨_,rfl⟩
   obtain⟨u2,hu2⟩:∃x,x=yi^cc % P:=⟨_,rfl⟩
   obtain⟨aa,haa⟩:∃x,x=G^ss*y^(Q - cc) % P:=⟨_,rfl⟩
   have hf1:blen u1≤1024:=by rw[hu1];exact hfm _
   have hf2:blen u2≤1024:=by rw[hu2];exact hfm _
   have hua:u1*u2 % P=aa:=by rw[haa,hu1,hu2,Hpw.out (Nat.le_of_lt hcQ),←Nat.mul_mod]
   have hma:memB P Q aa=true:=by
    rw[haa]
    refine mem_of hgok ?_
    rw[Nat.mul_pow,Nat.mul_mod,←Nat.pow_mul,←Nat.pow_mul,Nat.mul_comm ss,Nat.mul_comm (Q - cc),Nat.pow_mul,Nat.pow_mul,one_pow_mod hP2 hgok.one,one_pow_mod hP2 HyQ.out]
    exact Nat.mod_eq_of_lt (by omega)
   rw[←haa]at Htt
   have Hu1:=hide hu1
   have Hu2:=hide hu2
   have Hua:=hide hua
   have Hma:=hide hma
   clear hu1 hu2 haa hua hma hfm
   refine wp_region_plan (Ext _) 12 [(false,0),(false,1),(false,2),(false,3),(false,4),(false,6),(false,7),(false,8),(false,10),(true,5),(true,9),(true,11)] (by kernel_rfl) (by kernel_rfl) (Upd.refl _ _) (fun hne=>?_)
   repeat (refine head_q rfl (fun K hK=>?_);have hK2:=hide hK;clear hK;go_simp;refine hK2.out _ ?_;clear hK2 K)
   refine head_l rfl ?_
   go_wp2_with (go_at_call 53;go_must (refine(rgexp_any _ _ P Q G H _ _ G ss (HG.out.ext hED) (hg3.ext hED) (hRs6.ext hYd) (by omega) (by omega) (by omega) (by omega)).mono ?_);rw[←Hu1.out];rintro e v1 ⟨A8,l8,c8,rfl,hR8,hv1⟩)
   refine⟨Cls (Ext _),fun _ h=>h,⟨⟨_,hv1⟩,rfl⟩,?_⟩
   repeat (refine head_q rfl (fun K hK=>?_);have hK2:=hide hK;clear hK;go_simp;refine hK2.out _ ?_;clear hK2 K)
   refine head_l rfl ?_
   go_wp2_with (go_at_call 54;go_must (refine(rginv_any _ _ P Q G H _ y yi (HG.out.ext (hED.trans hv1)) (hVy.ext (hED.trans hv1)) hFP hFy hP2 hbP HbI.out).mono ?_);rintro e v2 ⟨A9,l9,c9,rfl,hR9,hv2⟩;have hv2g:=hv1.trans hv2)
   refine⟨Cls (Ext _),fun _ h=>h,⟨⟨_,hv2g⟩,rfl⟩,?_⟩
   repeat (refine head_q rfl (fun K hK=>?_);have hK2:=hide hK;clear hK;go_simp;refine hK2.out _ ?_;clear hK2 K)
   refine head_l rfl ?_
   go_wp2_with (go_at_call 53;go_must (refine(rgexp_any _ _ P Q G H _ _ yi cc (HG.out.ext (hED.trans hv2g)) hR9 (hRc6.ext (hYd.trans hv2g)) (by omega) (by omega) (by omega) (by omega)).mono ?_);rw[←Hu2.out];rintro e v3 ⟨A10,l10,c10,rfl,hR10,hv3⟩;have hv3g:=hv2g.trans hv3)
   refine⟨Cls (Ext _),fun _ h=>h,⟨⟨_,hv3g⟩,rfl⟩,?_⟩
   repeat (refine head_q rfl (fun K hK=>?_);have hK2:=hide hK;clear hK;go_simp;refine hK2.out _ ?_;clear hK2 K)
   clear y0 y1 y2 y3
   refine head_nil ?_
   try simp only[List.drop_succ_cons,List.drop_zero]
   go_wp2_with fail
   refine(rgmul_any _ _ P Q G H _ _ u1 u2 (HG.out.ext (hED.trans hv3g)) (hR8.ext (hv2.trans hv3)) hR10 hFP hf1 hf2 (by omega)).mono ?_
   rw[Hua.out]
   rintro e v4 ⟨A11,l11,c11,rfl,hR11,hv4⟩
   have hY4:=hYd.trans (hv3g.trans hv4)
   have b7:=b6.ext hY4
   have hE7:=hE6.trans hY4
   have hRc7:=hRc6.ext hY4
   have q0:=b7.at 0 rfl
   have q1:=b7.at 1 rfl
   have q2:=b7.at 2 rfl
   have q3:=b7.at 3 rfl
   clear hYd hED hv1 hv2 hv2g hv3 hv3g hv4 hR8 hR9 hR10 hY4 b6 hE6 hRc6 hRs6
   go_wp2_with fail
   refine(rschal_any 1024 _ _ P Q G H _ _ aa y A n c msg (HG.out.ext hE7) hR11 (hVy.ext hE7) (HM.out.ext hE7) Hma.out Hmem.out hFP hFQ (by omega) (by omega) (by omega) (by omega)).mono ?_
   obtain⟨ch,hch⟩:∃ch,ch=chalOf [sgnB,memBy P Q aa,memBy P Q y,msg] Q:=⟨_,rfl⟩
   have hchQ:ch<Q:=by rw[hch];exact chalOf_lt (by omega)
   have hFh:blen ch≤1024:=Nat.le_trans (blen_mono (Nat.le_of_lt hchQ)) hFQ
   obtain⟨x,hx,hx0⟩:∃x,cmpI ch cc=x∧(x == 0)=t:=⟨_,rfl,by rw[Htt.out,decide_eq_true hcQ,decide_eq_true hsQ,Bool.true_and,Bool.true_and,←hch];exact cmpI_eq0 ch cc⟩
   rw[←hch]
   rintro e v5 ⟨A12,l12,c12,rfl,hR12,hv5⟩
   clear hch q0 q1 q2 q3
   go_wp2_with fail
   refine(rcmp_any _ _ ch cc 1024 _ hR12 (hRc7.ext hv5) hFh hFc (by omega)).mono ?_
   rw[hx]
   rintro e v6 ⟨rfl,hv6⟩
   have hEf:=(hE7.trans hv5).trans hv6
   go_wp2_with fail
   go_ret
   exact⟨by first | rfl | exact congrArg (fun b=>Ending.returned (.bool b)) hx0,hEf⟩
end
end Go.Proofs.YtbhhjfhepkbfgaaGreat
