/- Signatures, walked: Verify. -/
import Derived.Test.YtbhhjfhepkbfgaaGreatWsSgnB
import Derived.Test.YtbhhjfhepkbfgaaGreatWsFreeN
namespace Go.Proofs.YtbhhjfhepkbfgaaGreat
set_option linter.unusedSimpArgs false
set_option linter.unusedVariables false
open Go.RowKit
open Nt Sha
attribute [local go_sem] steady steadyUpon Cls same_cell
attribute [local irreducible] wpHead wpTree sum chalOf
theorem prodE_two (a b x y:Nat):prodE [a,b] [x,y] 2=a^x*b^y:=by simp[prodE,gat]
def verB (P Q G y:Nat) (msg sig:List (BitVec 8)):Bool:=
 decide (sig.length=2*byteSz Q) && (memB P Q y && (decide (ofB (sig.take (byteSz Q))<Q) && (decide (ofB (sig.drop (byteSz Q))<Q) &&
  decide (chalOf [sgnB,memBy P Q (G^ofB (sig.drop (byteSz Q))*y^(Q - ofB (sig.take (byteSz Q))) % P),memBy P Q y,msg] Q=ofB (sig.take (byteSz Q))))))
theorem cmpI_eq0 (x y:Nat):(cmpI x y == 0)=decide (x=y):=by
 unfold cmpI
 by_cases h:x<y
 · rw[if_pos h,decide_eq_false (by omega)];rfl
 · rw[if_neg h]
   by_cases h2:x=y
   · rw[decide_eq_true h2,if_pos h2];rfl
   · rw[decide_eq_false h2,if_neg h2];rfl
theorem fit_bs128 {k n:Nat} {bs:List (BitVec 8)} (h:bs.length≤n) (hk:n≤4*k):Fit k (ofB bs):=by
 have h1:=ofB_lt bs
 unfold Fit
 refine Nat.lt_of_lt_of_le h1 ?_
 rw[show(256:Nat)=2^8 by decide,show W32=2^32 by decide,←Nat.pow_mul,←Nat.pow_mul]
 exact Nat.pow_le_pow_right (by omega) (by omega)
section
variable (gr P Q G H k : Nat) (w : World)
set_option maxRecDepth 100000 in
set_option maxHeartbeats 2000000 in
theorem sver_len (va:Value) (y:Nat) (A D:Option Addr) (n c m d:Nat) (msg sig:List (BitVec 8)) (h:GrpV w gr P Q G H) (hV:NatV w va y) (hM:Pt.ok w ⟨A,n,c,msg⟩) (hS:Pt.ok w ⟨D,m,d,sig⟩) (hFy:Fit k y) (hQ:Fit k Q) (hP:Fit k P) (hk:k≤50000) (hk32:32≤k) (hz128:byteSz Q≤128) (hm:m≠2*byteSz Q):
 Calls Tryz.prog 41 #[.pointer (some ⟨gr,0,none⟩),va,.slice A n c,.slice D m d] w fun e w'=>e=.returned (.bool (verB P Q G y msg sig))∧Ext w w':=by
 obtain⟨A1,l1,c1,xs,rfl, -⟩:=hV.open_
 have HG:=hide h
 have HM:=hide hM
 have HS:=hide hS
 have hzl:=byteSz_le hQ
 obtain⟨z,hz⟩:∃z,z=byteSz Q:=⟨_,rfl⟩
 obtain⟨N2,hN2⟩:∃N2,N2=2*byteSz Q:=⟨_,rfl⟩
 have hNz:N2=z+z:=by omega
 have hz128':z≤128:=by omega
 obtain⟨t,ht⟩:∃t,t=verB P Q G y msg sig:=⟨_,rfl⟩
 rw[←ht]
 have Hz:=hide hz
 have HN:=hide hN2
 have HNz:=hide hNz
 have Ht:=hide ht
 clear hz hN2 hNz ht h hM hS hz128
 have htf:t=false:=by rw[Ht.out];unfold verB;rw[decide_eq_false (by have h1:sig.length=m:=HS.out.2.1;omega)];rfl
 subst htf
 have hne:¬((m:Int)=(N2:Int)):=by have:=HN.out;omega
 go_enter Tryz.func41,Tryz.ntmps41
 go_wp2_with fail
 refine name_c (fun W hW=>?_)
 have b5:Box W w.heap.size 39 (.slice A1 l1 c1):=by rw[hW];exact Box.new _ _ _
 have hE:Ext w W:=by rw[hW];exact(Upd.refl _ w).alloc _
 clear hW
 refine(ssize_any gr P Q G H k W (HG.out.ext hE) hQ (by omega)).mono ?_
 rw[←HN.out]
 rintro e w1 ⟨rfl,hU1⟩
 have b5':=b5.ext hU1
 have hE1:=hE.trans hU1
 clear b5 hE hU1
 go_wp2_with fail
 go_ret
 exact⟨rfl,hE1⟩
set_option maxRecDepth 100000 in
set_option maxHeartbeats 2000000 in
theorem sver_mem (va:Value) (y:Nat) (A D:Option Addr) (n c m d:Nat) (msg sig:List (BitVec 8)) (h:GrpV w gr P Q G H) (hV:NatV w va y) (hM:Pt.ok w ⟨A,n,c,msg⟩) (hS:Pt.ok w ⟨D,m,d,sig⟩) (hFy:Fit k y) (hQ:Fit k Q) (hP:Fit k P) (hk:k≤50000) (hk32:32≤k) (hz128:byteSz Q≤128) (hm:m=2*byteSz Q) (hmem:memB P Q y=false):
 Calls Tryz.prog 41 #[.pointer (some ⟨gr,0,none⟩),va,.slice A n c,.slice D m d] w fun e w'=>e=.returned (.bool (verB P Q G y msg sig))∧Ext w w':=by
 obtain⟨A1,l1,c1,xs,rfl, -⟩:=hV.open_
 have HG:=hide h
 have HM:=hide hM
 have HS:=hide hS
 have hzl:=byteSz_le hQ
 obtain⟨z,hz⟩:∃z,z=byteSz Q:=⟨_,rfl⟩
 obtain⟨N2,hN2⟩:∃N2,N2=2*byteSz Q:=⟨_,rfl⟩
 have hNz:N2=z+z:=by omega
 have hz128':z≤128:=by omega
 obtain⟨t,ht⟩:∃t,t=verB P Q G y msg sig:=⟨_,rfl⟩
 rw[←ht]
 have Hz:=hide hz
 have HN:=hide hN2
 have HNz:=hide hNz
 have Ht:=hide ht
 clear hz hN2 hNz ht h hM hS hz128
 have htf:t=false:=by rw[Ht.out];unfold verB;rw[hmem];simp
 subst htf
 obtain rfl:N2=m:=by rw[HN.out,hm]
 clear hm
 go_enter Tryz.func41,Tryz.ntmps41
 go_wp2_with fail
 refine name_c (fun W hW=>?_)
 have b5:Box W w.heap.size 39 (.slice A1 l1 c1):=by rw[hW];exact Box.new _ _ _
 have hE:Ext w W:=by rw[hW];exact(Upd.refl _ w).alloc _
 clear hW
 refine(ssize_any gr P Q G H k W (HG.out.ext hE) hQ (by omega)).mono ?_
 rw[←HN.out]
 rintro e w1 ⟨rfl,hU1⟩
 have b5':=b5.ext hU1
 have hE1:=hE.trans hU1
 clear b5 hE hU1
 have q5:=b5'.cell
 go_wp2_with fail
 refine(gMember_any gr P Q G H k w1 _ y (HG.out.ext hE1) (hV.ext hE1) hFy hP hQ hk (by omega)).mono ?_
 rw[hmem]
 rintro e w2 ⟨rfl,hU2⟩
 have b5:=b5'.ext hU2
 have hE2:=hE1.trans hU2
 clear b5' hE1 hU2
 go_wp2_with fail
 go_ret
 exact⟨rfl,hE2⟩
set_option maxRecDepth 100000 in
set_option maxHeartbeats 4000000 in
theorem sver_good (va:Value) (y:Nat) (A D:Option Addr) (n c m d:Nat) (msg sig:List (BitVec 8)) (h:GrpV w gr P Q G H) (hV:NatV w va y) (hM:Pt.ok w ⟨A,n,c,msg⟩) (hS:Pt.ok w ⟨D,m,d,sig⟩) (hFy:Fit k y) (hQ:Fit k Q) (hP:Fit k P) (hGf:Fit k G) (hk:k≤50000) (hk32:32≤k) (hz128:byteSz Q≤128) (hn7:n≤1000000) (hP2:2≤P) (hm:m=2*byteSz Q) (hmem:memB P Q y=true):
 Calls Tryz.prog 41 #[.pointer (some ⟨gr,0,none⟩),va,.slice A n c,.slice D m d] w fun e w'=>e=.returned (.bool (verB P Q G y msg sig))∧Ext w w':=by
 obtain⟨A1,l1,c1,xs,rfl, -⟩:=hV.open_
 have HG:=hide h
 have HM:=hide hM
 have HS:=hide hS
 have hzl:=byteSz_le hQ
 obtain⟨z,hz⟩:∃z,z=byteSz Q:=⟨_,rfl⟩
 obtain⟨N2,hN2⟩:∃N2,N2=2*byteSz Q:=⟨_,rfl⟩
 have hNz:N2=z+z:=by omega
 have hz128':z≤128:=by omega
 obtain⟨t,ht⟩:∃t,t=verB P Q G y msg sig:=⟨_,rfl⟩
 rw[←ht]
 have Hz:=hide hz
 have HN:=hide hN2
 have HNz:=hide hNz
 have Ht:=hide ht
 clear hz hN2 hNz ht h hM hS hz128
 obtain rfl:N2=m:=by rw[HN.out,hm]
 obtain⟨cb,hcb⟩:∃b,b=sig.take z:=⟨_,rfl⟩
 obtain⟨sb,hsb⟩:∃b,b=sig.drop z:=⟨_,rfl⟩
 have hcl:cb.length=z:=by rw[hcb,List.length_take,show sig.length=N2 from HS.out.2.1,HNz.out];omega
 have hsl:sb.length=z:=by rw[hsb,List.length_drop,show sig.length=N2 from HS.out.2.1,HNz.out];omega
 obtain⟨cc,hcc⟩:∃x,x=ofB cb:=⟨_,rfl⟩
 obtain⟨ss,hss⟩:∃x,x=ofB sb:=⟨_,rfl⟩
 have hFc:Fit k cc:=by rw[hcc];exact fit_bs128 (n:=128) (by omega) (by omega)
 have hFs:Fit k ss:=by rw[hss];exact fit_bs128 (n:=128) (by omega) (by omega)
 have htt:t=(decide (cc<Q) && (decide (ss<Q) && decide (chalOf [sgnB,memBy P Q (G^ss*y^(Q - cc) % P),memBy P Q y,msg] Q=cc))):=by
  rw[Ht.out];unfold verB
  rw[←Hz.out,←hcb,←hsb,←hcc,←hss,hmem,decide_eq_true (show sig.length=2*z by have h1:sig.length=N2:=HS.out.2.1;have:=HNz.out;omega),Bool.true_and,Bool.true_and]
 have Htt:=hide htt
 have hsd:z≤d:=by have h1:N2≤d:=HS.out.2.2.1;have:=HNz.out;omega
 have hs1:∀w,(Instr.sliceAt 24 (.slice D N2 d) none (some (.int .i64 (z:Int))) none).run Tryz.prog w=.ok (.slice D z d) w:=fun w=>run_cut_h Tryz.n_el8.under Tryz.n_sz8 D N2 d z .i64 hsd w
 have hs2:∀w,(Instr.sliceAt 24 (.slice D N2 d) (some (.int .i64 (z:Int))) none none).run Tryz.prog w=.ok (.slice (shA D d z) z (d - z)) w:=fun w=>by
   have:=run_cut_l Tryz.n_el8.under Tryz.n_sz8 D N2 d z .i64 (by have:=HNz.out;omega) w
   rw[show N2 - z=z by have:=HNz.out;omega]at this
   exact this
 have hSc:Sl by8 w D cb:=by rw[hcb];exact HS.out.1.take z
 have hSs:Sl by8 w (shA D d z) sb:=by rw[hsb];exact HS.out.1.shA (show sig.length≤d from Nat.le_trans (Nat.le_of_eq HS.out.2.1) HS.out.2.2.1)
 have HSc:=hide hSc
 have HSs:=hide hSs
 have Hcl:=hide hcl
 have Hsl:=hide hsl
 have Hcc:=hide hcc
 have Hss:=hide hss
 clear hm htt hSc hSs hcl hsl hcb hsb hcc hss hsd
 go_enter Tryz.func41,Tryz.ntmps41
 go_wp2_with fail
 refine name_c (fun W hW=>?_)
 have b5:Box W w.heap.size 39 (.slice A1 l1 c1):=by rw[hW];exact Box.new _ _ _
 have hE:Ext w W:=by rw[hW];exact(Upd.refl _ w).alloc _
 clear hW
 refine(ssize_any gr P Q G H k W (HG.out.ext hE) hQ (by omega)).mono ?_
 rw[←HN.out]
 rintro e w1 ⟨rfl,hU1⟩
 have b5':=b5.ext hU1
 have hE1:=hE.trans hU1
 clear b5 hE hU1
 have q5:=b5'.cell
 go_wp2_with fail
 refine(gMember_any gr P Q G H k w1 _ y (HG.out.ext hE1) (hV.ext hE1) hFy hP hQ hk (by omega)).mono ?_
 rw[hmem]
 rintro e w2 ⟨rfl,hU2⟩
 have b5:=b5'.ext hU2
 have hE2:=hE1.trans hU2
 clear b5' hE1 hU2
 clear q5
 go_wp2_with fail
 refine(swidth_any gr P Q G H k w2 (HG.out.ext hE2) hQ (by omega)).mono ?_
 rw[←Hz.out]
 rintro e w3 ⟨rfl,hU3⟩
 have hE3:=hE2.trans hU3
 go_wp2_with fail
 refine(from_any D z d cb w3 Hcl.out hz128' (HSc.out.ext hE3)).mono ?_
 rw[←Hcc.out]
 rintro e w4 ⟨A4,l4,c4,rfl,hV4,hU4⟩
 go_wp2_with fail
 refine name_c (fun W5 hW5=>?_)
 have hU5:Ext w2 W5:=by rw[hW5];exact(hU3.trans hU4).alloc _
 have b10:Box W5 w4.heap.size 39 (.slice A4 l4 c4):=by rw[hW5];exact Box.new _ _ _
 have hVc:NatV W5 (.agg #[.slice A4 l4 c4]) cc:=by rw[hW5];exact hV4.ext ((Upd.refl _ _).alloc _)
 have b5':=b5.ext hU5
 have hE5:=hE2.trans hU5
 clear hW5 hV4 hU4 hU5 hE3 hU3 b5 hE2
 refine(from_any (shA D d z) z (d - z) sb W5 Hsl.out hz128' (HSs.out.ext hE5)).mono ?_
 rw[←Hss.out]
 rintro e w6 ⟨A6,l6,c6,rfl,hV6,hU6⟩
 go_wp2_with fail
 refine name_c (fun W7 hW7=>?_)
 have hU7:Ext W5 W7:=by rw[hW7];exact hU6.alloc _
 have b12:Box W7 w6.heap.size 39 (.slice A6 l6 c6):=by rw[hW7];exact Box.new _ _ _
 have hVs:NatV W7 (.agg #[.slice A6 l6 c6]) ss:=by rw[hW7];exact hV6.ext ((Upd.refl _ _).alloc _)
 have b5:=b5'.ext hU7
 have b10':=b10.ext hU7
 have hVc':=hVc.ext hU7
 have hE7:=hE5.trans hU7
 clear hW7 hV6 hU6 hU7 hE5 b5' b10 hVc
 refine(gField_any gr P Q G H W7 (HG.out.ext hE7)).mono ?_
 rintro e w8 ⟨gq,rfl,hRq,rfl⟩
 go_wp2_with fail
 refine(mmod_any gq Q _ hRq).mono ?_
 rintro e w9 ⟨A9,l9,c9,rfl,hV9,hU9⟩
 have q10:=((b10'.ext hU9).alloc (.cells #[.slice A9 l9 c9] 39)).cell
 have q14:=(Box.new w9 39 (.slice A9 l9 c9)).cell
 go_wp2_with fail
 clear q10 q14
 refine name_c (fun Y hY=>?_)
 have hU10:Ext w8 Y:=by rw[hY];exact hU9.alloc _
 have b14:Box Y w9.heap.size 39 (.slice A9 l9 c9):=by rw[hY];exact Box.new _ _ _
 have hVq:NatV Y (.agg #[.slice A9 l9 c9]) Q:=by rw[hY];exact hV9.ext ((Upd.refl _ _).alloc _)
 have b5':=b5.ext hU10
 have b10:=b10'.ext hU10
 have b12':=b12.ext hU10
 have hVc:=hVc'.ext hU10
 have hVs':=hVs.ext hU10
 have hEY:=hE7.trans hU10
 clear hY hV9 hU9 hU10 hE7 b5 b10' b12 hVc' hVs hRq
 refine(cmp_any _ _ cc Q k Y hVc hVq hFc hQ (by omega)).mono ?_
 rintro e w10 ⟨rfl,hU10⟩
 by_cases hcQ:cc<Q
 case neg=>
  obtain⟨x,hx,hx0⟩:∃x,cmpI cc Q=x∧(0:Int)≤x:=⟨_,rfl,by unfold cmpI;rw[if_neg hcQ];split<;>omega⟩
  rw[hx]
  have hEf:=hEY.trans hU10
  obtain rfl:t=false:=by rw[Htt.out,decide_eq_false hcQ];rfl
  go_wp2_with fail
  go_ret
  exact⟨rfl,hEf⟩
 rw[cmpI_lt hcQ]
 have b12:=b12'.ext hU10
 have b14':=b14.ext hU10
 have q12:=b12.cell
 have q14:=b14'.cell
 go_wp2_with fail
 clear q12 q14
 refine(cmp_any _ _ ss Q k w10 (hVs'.ext hU10) (hVq.ext hU10) hFs hQ (by omega)).mono ?_
 rintro e w11 ⟨rfl,hU11⟩
 by_cases hsQ:ss<Q
 case neg=>
  obtain⟨x,hx,hx0⟩:∃x,cmpI ss Q=x∧(0:Int)≤x:=⟨_,rfl,by unfold cmpI;rw[if_neg hsQ];split<;>omega⟩
  rw[hx]
  have hEf:=(hEY.trans hU10).trans hU11
  obtain rfl:t=false:=by rw[Htt.out,decide_eq_false hsQ];simp
  go_wp2_with fail
  go_ret
  exact⟨rfl,hEf⟩
 rw[cmpI_lt hsQ]
 have hU12:=hU10.trans hU11
 have b5:=b5'.ext hU12
 have b10':=b10.ext hU12
 have b12:=b12'.ext hU12
 have b14:=b14.ext hU12
 have hVc':=hVc.ext hU12
 have hVs:=hVs'.ext hU12
 have hVq':=hVq.ext hU12
 have hE12:=hEY.trans hU12
 have q10:=b10'.cell
 have q14:=b14.cell
 clear hU10 hU11 hU12 hEY b5' b10 b12' b14' hVc hVs' hVq
 go_wp2_with fail
 clear q10 q14
 refine(sub_any _ _ Q cc k w11 hVq' hVc' hQ hFc (by omega)).mono ?_
 rw[if_neg (by omega)]
 rintro e w13 ⟨A13,l13,c13,rfl,hV13,hU13⟩
 go_wp2_with fail
 refine name_w (fun X hX=>?_)
 have hU14:Ext w11 X:=by rw[hX];exact hU13.alloc _
 have b15:Box X w13.heap.size 39 (.slice A13 l13 c13):=by rw[hX];exact Box.new _ _ _
 have hVl:NatV X (.agg #[.slice A13 l13 c13]) (Q - cc):=by rw[hX];exact hV13.ext ((Upd.refl _ _).alloc _)
 have b5':=b5.ext hU14
 have b10:=b10'.ext hU14
 have b12':=b12.ext hU14
 have hVc:=hVc'.ext hU14
 have hVs':=hVs.ext hU14
 have hEX:=hE12.trans hU14
 clear hX hV13 hU13 hU14 hE12 b5 b10' b12 b14 hVc' hVs hVq'
 have hFl:Fit k (Q - cc):=hQ.le (by omega)
 refine wp_region_fg 14 [.val (.eq (.pointer (some ⟨gr,0,none⟩))),.val (.eq (.pointer (some ⟨gr,0,none⟩))),.val (.p (natP (G))),.val (.eq (.agg #[.slice A1 l1 c1])),.val (.p (twoP ([G,y]))),.val (.eq (.agg #[.slice A6 l6 c6])),.val (.eq (.agg #[.slice A13 l13 c13])),.val (.p (twoP ([ss,Q - cc]))),.tup2 (.p (natP (prodE [G,y] [ss,Q - cc] 2 % P))) (.eq (.int .i64 0)),.tup2 (.p (natP (prodE [G,y] [ss,Q - cc] 2 % P))) (.eq (.int .i64 0)),.val (.p (natP (prodE [G,y] [ss,Q - cc] 2 % P))),.val (.eq (.int .i64 0)),.new 39 (.slice none 0 0),.set 12 39 (natC (prodE [G,y] [ss,Q - cc] 2 % P))] [(13,12)] (by kernel_rfl) rfl (by kernel_rfl) (by kernel_rfl) (by kernel_rfl) ?_ ?_
 · intro i hi
   match i,hi with
   | 0,_=>
     intro u wx S o ho hE hr hd hw
     injection (ho:some _=some o)with ho
     subst ho
     have hEx:Ext X wx:=hE.undrew
     simp only[fr,dstOf]
     go_simp
     go_wp2
     first | exact⟨Upd.refl _ _,rfl⟩ | exact⟨_,rfl,Upd.refl _ _,rfl⟩
   | 1,_=>
     intro u wx S o ho hE hr hd hw
     injection (ho:some _=some o)with ho
     subst ho
     have hEx:Ext X wx:=hE.undrew
     simp only[fr,dstOf]
     go_simp
     go_wp2
     first | exact⟨Upd.refl _ _,rfl⟩ | exact⟨_,rfl,Upd.refl _ _,rfl⟩
   | 2,_=>
     intro u wx S o ho hE hr hd hw
     injection (ho:some _=some o)with ho
     subst ho
     have hEx:Ext X wx:=hE.undrew
     have f1:u 1=.pointer (some ⟨gr,0,none⟩):=hw 1 (by omega) (by kernel_rfl) (by simp)
     simp only[fr,dstOf]
     go_simp
     go_wp2_with fail
     refine(gG_any gr P Q G H _ (HG.out.ext (hEX.trans hEx))).mono ?_
     rintro e wn ⟨A19,l19,c19,rfl,hVn,hU⟩
     go_wp2_with fail
     first | exact⟨_,rfl,hU.mono (fun _ _ h=>h.elim),_,_,_,rfl,hVn⟩ | exact⟨hU.mono (fun _ _ h=>h.elim),_,_,_,rfl,hVn⟩
   | 3,_=>
     intro u wx S o ho hE hr hd hw
     injection (ho:some _=some o)with ho
     subst ho
     have hEx:Ext X wx:=hE.undrew
     have cx:=(b5'.ext hEx).cell
     simp only[fr,dstOf]
     go_simp
     go_wp2
     first | exact⟨Upd.refl _ _,rfl⟩ | exact⟨_,rfl,Upd.refl _ _,rfl⟩
   | 4,_=>
     intro u wx S o ho hE hr hd hw
     injection (ho:some _=some o)with ho
     subst ho
     have hEx:Ext X wx:=hE.undrew
     obtain⟨aA2,aL2,aC2,f2,hV2⟩:FG.J 2 (.val (.p (natP (G)))) u wx (S 2):=hw 2 (by omega) (by kernel_rfl) (by simp)
     have f3:u 3=.agg #[.slice A1 l1 c1]:=hw 3 (by omega) (by kernel_rfl) (by simp)
     simp only[fr,dstOf]
     go_simp
     go_wp2
     exact⟨_,rfl,(Upd.refl _ _).alloc _,_,_,_,rfl,rfl,rfl,NTwo.mk _ hV2 (hV.ext (hEX.trans hEx))⟩
   | 5,_=>
     intro u wx S o ho hE hr hd hw
     injection (ho:some _=some o)with ho
     subst ho
     have hEx:Ext X wx:=hE.undrew
     have cx:=(b12'.ext hEx).cell
     simp only[fr,dstOf]
     go_simp
     go_wp2
     first | exact⟨Upd.refl _ _,rfl⟩ | exact⟨_,rfl,Upd.refl _ _,rfl⟩
   | 6,_=>
     intro u wx S o ho hE hr hd hw
     injection (ho:some _=some o)with ho
     subst ho
     have hEx:Ext X wx:=hE.undrew
     have cx:=(b15.ext hEx).cell
     simp only[fr,dstOf]
     go_simp
     go_wp2
     first | exact⟨Upd.refl _ _,rfl⟩ | exact⟨_,rfl,Upd.refl _ _,rfl⟩
   | 7,_=>
     intro u wx S o ho hE hr hd hw
     injection (ho:some _=some o)with ho
     subst ho
     have hEx:Ext X wx:=hE.undrew
     have f5:u 5=.agg #[.slice A6 l6 c6]:=hw 5 (by omega) (by kernel_rfl) (by simp)
     have f6:u 6=.agg #[.slice A13 l13 c13]:=hw 6 (by omega) (by kernel_rfl) (by simp)
     simp only[fr,dstOf]
     go_simp
     go_wp2
     exact⟨_,rfl,(Upd.refl _ _).alloc _,_,_,_,rfl,rfl,rfl,NTwo.mk _ (hVs'.ext hEx) (hVl.ext hEx)⟩
   | 8,_=>
     intro u wx S o ho hE hr hd hw
     injection (ho:some _=some o)with ho
     subst ho
     have hEx:Ext X wx:=hE.undrew
     have f0:u 0=.pointer (some ⟨gr,0,none⟩):=hw 0 (by omega) (by kernel_rfl) (by simp)
     obtain⟨aA4,aL4,aC4,f4,hV4⟩:FG.J 4 (.val (.p (twoP ([G,y])))) u wx (S 4):=hw 4 (by omega) (by kernel_rfl) (by simp)
     obtain⟨aA7,aL7,aC7,f7,hV7⟩:FG.J 7 (.val (.p (twoP ([ss,Q - cc])))) u wx (S 7):=hw 7 (by omega) (by kernel_rfl) (by simp)
     simp only[fr,dstOf]
     go_simp
     go_wp2_with fail
     refine(gMulti_any gr P Q G H k _ _ 2 _ _ [G,y] [ss,Q - cc] _ (HG.out.ext (hEX.trans hEx)) hV4.2.2.natL hV7.2.2.natL rfl rfl (fun i hi=>by match i,hi with | 0,_=>exact hGf | 1,_=>exact hFy) (fun i hi=>by match i,hi with | 0,_=>exact hFs | 1,_=>exact hFl) hP hP2 (by omega) hk (by omega)).mono ?_
     rintro e wn ⟨A19,l19,c19,rfl,hVn,hU⟩
     go_wp2_with fail
     exact⟨_,rfl,hU.mono (fun _ _ h=>h.elim),_,_,rfl,⟨_,_,_,rfl,hVn⟩,rfl⟩
   | 9,_=>
     intro u wx S o ho hE hr hd hw
     injection (ho:some _=some o)with ho
     subst ho
     have hEx:Ext X wx:=hE.undrew
     obtain⟨_,_,f8,⟨aA8_0,aL8_0,aC8_0,rfl,hV8_0⟩,rfl⟩:FG.J 8 (.tup2 (.p (natP (prodE [G,y] [ss,Q - cc] 2 % P))) (.eq (.int .i64 0))) u wx (S 8):=hw 8 (by omega) (by kernel_rfl) (by simp)
     simp only[fr,dstOf]
     go_simp
     go_wp2
     first | exact⟨Upd.refl _ _,_,_,rfl,⟨_,_,_,rfl,hV8_0⟩,rfl⟩ | exact⟨_,rfl,Upd.refl _ _,_,_,rfl,⟨_,_,_,rfl,hV8_0⟩,rfl⟩
   | 10,_=>
     intro u wx S o ho hE hr hd hw
     injection (ho:some _=some o)with ho
     subst ho
     have hEx:Ext X wx:=hE.undrew
     obtain⟨_,_,f9,⟨aA9_0,aL9_0,aC9_0,rfl,hV9_0⟩,rfl⟩:FG.J 9 (.tup2 (.p (natP (prodE [G,y] [ss,Q - cc] 2 % P))) (.eq (.int .i64 0))) u wx (S 9):=hw 9 (by omega) (by kernel_rfl) (by simp)
     simp only[fr,dstOf]
     go_simp
     go_wp2
     first | exact⟨Upd.refl _ _,aA9_0,aL9_0,aC9_0,rfl,hV9_0⟩ | exact⟨_,rfl,Upd.refl _ _,aA9_0,aL9_0,aC9_0,rfl,hV9_0⟩
   | 11,_=>
     intro u wx S o ho hE hr hd hw
     injection (ho:some _=some o)with ho
     subst ho
     have hEx:Ext X wx:=hE.undrew
     obtain⟨_,_,f9,⟨aA9_0,aL9_0,aC9_0,rfl,hV9_0⟩,rfl⟩:FG.J 9 (.tup2 (.p (natP (prodE [G,y] [ss,Q - cc] 2 % P))) (.eq (.int .i64 0))) u wx (S 9):=hw 9 (by omega) (by kernel_rfl) (by simp)
     simp only[fr,dstOf]
     go_simp
     go_wp2
     first | exact⟨Upd.refl _ _,rfl⟩ | exact⟨_,rfl,Upd.refl _ _,rfl⟩
   | 12,_=>
     intro u wx S o ho hE hr hd hw
     injection (ho:some _=some o)with ho
     subst ho
     have hEx:Ext X wx:=hE.undrew
     simp only[fr,dstOf]
     go_simp
     go_wp2
     first | exact⟨(Upd.refl _ _).alloc _,wx.heap.size,rfl,Bx.new _ _ _,⟨Nat.le_refl _,by first | exact Nat.lt_succ_self _ | simp⟩,fun b hb=>by first | omega | (simp at hb;omega)⟩ | exact⟨_,rfl,(Upd.refl _ _).alloc _,wx.heap.size,rfl,Bx.new _ _ _,⟨Nat.le_refl _,by first | exact Nat.lt_succ_self _ | simp⟩,fun b hb=>by first | omega | (simp at hb;omega)⟩
   | 13,_=>
     intro u wx S o ho hE hr hd hw
     injection (ho:some _=some o)with ho
     subst ho
     have hEx:Ext X wx:=hE.undrew
     obtain⟨aA10,aL10,aC10,f10,hV10⟩:FG.J 10 (.val (.p (natP (prodE [G,y] [ss,Q - cc] 2 % P)))) u wx (S 10):=hw 10 (by omega) (by kernel_rfl) (by simp)
     obtain⟨g12,f12,hb12,hs12,hall12⟩:FG.J 12 (.new 39 (.slice none 0 0)) u wx (S 12):=hw 12 (by omega) (by kernel_rfl) (by simp)
     have cg12:=hb12.cell
     have fg12:=hb12.frozen
     simp only[fr,dstOf]
     go_simp
     go_wp2
     first | exact⟨(Upd.refl _ _).setCell (p:=⟨g12,0,none⟩) (.inl hs12) _,undef,g12,_,(updf_ne u _ (by decide)).trans f12,hb12.set _,.inr hs12,⟨_,_,_,rfl,hV10.far cg12⟩⟩ | exact⟨undef,(Upd.refl _ _).setCell (p:=⟨g12,0,none⟩) (.inl hs12) _,g12,_,(updf_ne u _ (by decide)).trans f12,hb12.set _,.inr hs12,⟨_,_,_,rfl,hV10.far cg12⟩⟩ | exact⟨trivial,(Upd.refl _ _).setCell (p:=⟨g12,0,none⟩) (.inl hs12) _,undef,g12,_,(updf_ne u _ (by decide)).trans f12,hb12.set _,.inr hs12,⟨_,_,_,rfl,hV10.far cg12⟩⟩
   | k+14,h=>exact absurd h (by omega)
 · intro u wx S hE hw hrg hdj
   have hEx:Ext X wx:=hE.undrew
   have f0:u 0=.pointer (some ⟨gr,0,none⟩):=hw 0 (by omega) (by simp)
   have f1:u 1=.pointer (some ⟨gr,0,none⟩):=hw 1 (by omega) (by simp)
   obtain⟨aA2,aL2,aC2,f2,hV2⟩:FG.J 2 (.val (.p (natP (G)))) u wx (S 2):=hw 2 (by omega) (by simp)
   have f3:u 3=.agg #[.slice A1 l1 c1]:=hw 3 (by omega) (by simp)
   obtain⟨aA4,aL4,aC4,f4,hV4⟩:FG.J 4 (.val (.p (twoP ([G,y])))) u wx (S 4):=hw 4 (by omega) (by simp)
   have f5:u 5=.agg #[.slice A6 l6 c6]:=hw 5 (by omega) (by simp)
   have f6:u 6=.agg #[.slice A13 l13 c13]:=hw 6 (by omega) (by simp)
   obtain⟨aA7,aL7,aC7,f7,hV7⟩:FG.J 7 (.val (.p (twoP ([ss,Q - cc])))) u wx (S 7):=hw 7 (by omega) (by simp)
   obtain⟨_,_,f8,⟨aA8_0,aL8_0,aC8_0,rfl,hV8_0⟩,rfl⟩:FG.J 8 (.tup2 (.p (natP (prodE [G,y] [ss,Q - cc] 2 % P))) (.eq (.int .i64 0))) u wx (S 8):=hw 8 (by omega) (by simp)
   obtain⟨_,_,f9,⟨aA9_0,aL9_0,aC9_0,rfl,hV9_0⟩,rfl⟩:FG.J 9 (.tup2 (.p (natP (prodE [G,y] [ss,Q - cc] 2 % P))) (.eq (.int .i64 0))) u wx (S 9):=hw 9 (by omega) (by simp)
   obtain⟨aA10,aL10,aC10,f10,hV10⟩:FG.J 10 (.val (.p (natP (prodE [G,y] [ss,Q - cc] 2 % P)))) u wx (S 10):=hw 10 (by omega) (by simp)
   have f11:u 11=.int .i64 0:=hw 11 (by omega) (by simp)
   obtain⟨g13,_,f12,hb13,hs13,⟨aA13,aL13,aC13,rfl,hV13⟩⟩:FG.J 13 (.set 12 39 (natC (prodE [G,y] [ss,Q - cc] 2 % P))) u wx (S 13):=hw 13 (by omega) (by simp)
   simp only[fr,dstOf]
   go_simp
   have b17:Box wx g13 39 (.slice aA13 aL13 aC13):=Box.bx hb13
   rw[prodE_two]at hV13
   obtain⟨aa,haa⟩:∃aa,aa=G^ss*y^(Q - cc) % P:=⟨_,rfl⟩
   have hFa:Fit k aa:=by rw[haa];exact hP.le (Nat.le_of_lt (Nat.mod_lt _ (by omega)))
   rw[←haa]at hV13 Htt
   have b5:=b5'.ext hEx
   have b10':=b10.ext hEx
   have hVc':=hVc.ext hEx
   have hEY:=hEX.trans hEx
   clear hw hrg hdj hs13 hb13 hV2 hV4 hV7 hV8_0 hV9_0 hV10 f0 f1 f2 f3 f4 f5 f6 f7 f8 f9 f10 f11 f12 haa b5' b12' b15 b10 hVc hVs' hVl hEX hEx
   go_wp2_with fail
   refine name_w (fun Y hY=>?_)
   subst hY
   have hED:Ext w Y.drew:=hEY.drew
   have hYd:Ext Y Y.drew:=(Upd.refl _ _).drew
   have q1:=fun y:Wd (Ext Y.drew)=>y.ok.cellv b17.drew.cell
   have q2:=fun y:Wd (Ext Y.drew)=>y.ok.cellv b5.drew.cell
   have q3:=fun y:Wd (Ext Y.drew)=>y.ok.cellv b10'.drew.cell
   obtain⟨ch,hch⟩:∃ch,ch=chalOf [sgnB,memBy P Q aa,memBy P Q y,msg] Q:=⟨_,rfl⟩
   have hFh:Fit k ch:=by rw[hch];exact hQ.le (Nat.le_of_lt (chalOf_lt (by omega)))
   have Hch:=hide hch
   clear hch
   obtain⟨x,hx,hx0⟩:∃x,cmpI ch cc=x∧(x == 0)=t:=⟨_,rfl,by rw[Htt.out,decide_eq_true hcQ,decide_eq_true hsQ,Bool.true_and,Bool.true_and,←Hch.out];exact cmpI_eq0 ch cc⟩
   refine wp_region_plan (Ext _) 12 [(false,0),(false,1),(false,2),(false,3),(false,4),(false,5),(false,6),(false,8),(true,7),(true,9),(false,10),(false,11)] (by kernel_rfl) (by kernel_rfl) (Upd.refl _ _) (fun hne=>?_)
   repeat (refine head_q rfl (fun K hK=>?_);have hK2:=hide hK;clear hK;go_simp;refine hK2.out _ ?_;clear hK2 K)
   refine head_l rfl ?_
   go_wp2_with (go_at_call 77;go_must (refine(schal_any gr P Q G H k _ _ _ aa y A n c msg (HG.out.ext hED) (hV13.ext hYd) (hV.ext hED) (HM.out.ext hED) hFa hFy hP hQ hk (by omega) (by omega)).mono ?_);rw[←Hch.out];rintro e v1 ⟨A20,l20,c20,rfl,hV20,hu1⟩)
   refine⟨Cls (Ext _),fun _ h=>h,⟨⟨_,hu1⟩,rfl⟩,?_⟩
   repeat (refine head_q rfl (fun K hK=>?_);have hK2:=hide hK;clear hK;go_simp;refine hK2.out _ ?_;clear hK2 K)
   refine head_l rfl ?_
   go_wp2_with (go_at_call 60;go_must (refine(cmp_any _ _ ch cc k _ hV20 (hVc'.ext (hYd.trans hu1)) hFh hFc (by omega)).mono ?_);rintro e v2 ⟨rfl,hu2⟩;replace hu2:=hu1.trans hu2;rw[hx])
   refine⟨Cls (Ext _),fun _ h=>h,⟨⟨_,hu2⟩,rfl⟩,?_⟩
   repeat (refine head_q rfl (fun K hK=>?_);have hK2:=hide hK;clear hK;go_simp;refine hK2.out _ ?_;clear hK2 K)
   have hG:=hEY.trans hu2.undrew
   clear q1 q2 q3
   refine head_nil ?_
   try simp only[List.drop_succ_cons,List.drop_zero]
   go_wp2_with fail
   go_ret
   exact⟨by first | rfl | exact congrArg (fun b=>Ending.returned (.bool b)) hx0,hG⟩
theorem sver_any (va:Value) (y:Nat) (A D:Option Addr) (n c m d:Nat) (msg sig:List (BitVec 8)) (h:GrpV w gr P Q G H) (hV:NatV w va y) (hM:Pt.ok w ⟨A,n,c,msg⟩) (hS:Pt.ok w ⟨D,m,d,sig⟩) (hFy:Fit k y) (hQ:Fit k Q) (hP:Fit k P) (hGf:Fit k G) (hk:k≤50000) (hk32:32≤k) (hz128:byteSz Q≤128) (hn7:n≤1000000) (hP2:2≤P):
 Calls Tryz.prog 41 #[.pointer (some ⟨gr,0,none⟩),va,.slice A n c,.slice D m d] w fun e w'=>e=.returned (.bool (verB P Q G y msg sig))∧Ext w w':=by
 by_cases hm:m=2*byteSz Q
 · by_cases hmem:memB P Q y=true
   · exact sver_good gr P Q G H k w va y A D n c m d msg sig h hV hM hS hFy hQ hP hGf hk hk32 hz128 hn7 hP2 hm hmem
   · exact sver_mem gr P Q G H k w va y A D n c m d msg sig h hV hM hS hFy hQ hP hk hk32 hz128 hm (by simpa using hmem)
 · exact sver_len gr P Q G H k w va y A D n c m d msg sig h hV hM hS hFy hQ hP hk hk32 hz128 hm
end
end Go.Proofs.YtbhhjfhepkbfgaaGreat
