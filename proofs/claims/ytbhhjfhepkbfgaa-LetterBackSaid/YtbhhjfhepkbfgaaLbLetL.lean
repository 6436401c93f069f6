/- The letters' laws: lives, the law's key. -/
import Derived.Test.YtbhhjfhepkbfgaaLbLetF
import Derived.Test.YtbhhjfhepkbfgaaLbSgnL
namespace Go.Proofs.Ytbhhjfhepkbfgaa
set_option linter.unusedSimpArgs false
set_option linter.unusedVariables false
open Go.RowKit
open Nt Sha Strm
attribute [local go_sem] steady steadyUpon Cls same_cell anyW
attribute [local irreducible] wpHead wpTree wpHeadR Sha.sum bxO bxS keyB str
theorem bxO_rt (key nonce side b:List (BitVec 8)):bxO key nonce side (bxS key nonce side b)=some b:=by
 unfold bxS bxO
 rw[List.length_append,bxP_length,Nat.add_sub_cancel,List.take_left' rfl,List.drop_left' rfl,if_pos rfl,xors_back]
def keyN (Q x:Nat):Nat:=if x % Q=0 then 1 else x % Q
theorem keyN_in {Q:Nat} (x:Nat) (hQ:64<Q):0<keyN Q x∧keyN Q x<Q:=by
 have:=Nat.mod_lt x (show 0<Q by omega)
 unfold keyN
 split<;>omega
theorem cmpI_aa (a:Nat):cmpI a a=0:=by unfold cmpI;rw[if_neg (by omega),if_pos rfl]
def msgX :List (BitVec 8):=[120]
section
variable (gr P Q G H : Nat) (w : World)
set_option maxRecDepth 100000 in
set_option maxHeartbeats 2000000 in
theorem lkn_any (x:Nat) (h:GrpV w gr P Q G H) (hx64:x<18446744073709551616) (hQ:Fit 32 Q):
 Calls Try.prog 17 #[.pointer (some ⟨gr,0,none⟩),.int .u64 (x:Nat)] w (RetN w (keyN Q x)):=by
 have hFx:Fit 32 x:=(fit2 hx64).mono (by omega)
 obtain⟨kk,hkk⟩:∃kk,kk=keyN Q x:=⟨_,rfl⟩
 rw[←hkk]
 have Hkk:=hide hkk
 clear hkk
 go_enter Try.func17,Try.ntmps17
 go_wp2_with fail
 refine name_c (fun W hW=>?_)
 have b4:Box W w.heap.size 33 (.slice none 0 0):=by rw[hW];exact Box.new _ _ _
 have hEW:Ext w W:=by rw[hW];exact(Upd.refl _ w).alloc _
 clear hW
 refine(gField_any gr P Q G H _ (h.ext hEW)).mono ?_
 rintro e w3 ⟨gq,rfl,hRq,rfl⟩
 go_wp2_with fail
 refine(new_any x _ hx64).mono ?_
 rintro e w4 ⟨A4,l4,c4,rfl,hV4,hU4⟩
 go_wp2_with fail
 refine(mof_any _ gq x Q 32 _ (hRq.ext hU4) hV4 hFx hQ (by omega)).mono ?_
 rintro e w5 ⟨A5,l5,c5,rfl,hV5,hU5⟩
 obtain⟨d,hd⟩:∃d,d=x % Q:=⟨_,rfl⟩
 rw[←hd]at hV5
 have Hd:=hide hd
 clear hd hV4 hFx
 have hU45:=hU4.trans hU5
 have q10:=(Box.new w5 33 (.slice A5 l5 c5)).cell
 go_wp2_with fail
 clear q10
 refine name_c (fun V0 hW=>?_)
 have hU0:Ext w3 V0:=by rw[hW];exact hU45.alloc _
 have b10:Box V0 w5.heap.size 33 (.slice A5 l5 c5):=by rw[hW];exact Box.new _ _ _
 have hVd:NatV V0 (.agg #[.slice A5 l5 c5]) d:=by rw[hW];exact hV5.ext ((Upd.refl _ _).alloc _)
 clear hW hU4 hU5 hU45 hV5 hRq
 refine(zero_any _ d _ hVd).mono ?_
 rintro e w6 ⟨rfl,hU6⟩
 by_cases hd0:d=0
 case pos=>
  obtain rfl:kk=1:=by rw[Hkk.out];unfold keyN;rw[←Hd.out,if_pos hd0]
  rw[decide_eq_true hd0]
  go_wp2_with fail
  refine(new_any 1 _ (by decide)).mono ?_
  rintro e w7 ⟨AK,lK,cK,rfl,hV7,hU7⟩
  have hE:=(hU0.trans hU6).trans hU7
  have b4n:=b4.ext hE
  have z2:=b4n.cell
  have z3:=b4n.frozen
  have hG:=hEW.trans hE
  go_wp2_with fail
  have q:=(b4n.set (.slice AK lK cK)).cell
  exact bodyPost_ret (v:=.agg #[.slice AK lK cK]) (by simp[results,Try.results17,go_sem,q]) rfl ⟨_,_,_,rfl,hV7.far z2,hG.setCell (p:=⟨w.heap.size,0,none⟩) (.inr (Nat.le_refl _)) _⟩
 case neg=>
  obtain rfl:kk=d:=by rw[Hkk.out];unfold keyN;rw[←Hd.out,if_neg hd0]
  rw[decide_eq_false hd0]
  have q10:=(b10.ext hU6).cell
  have hE:=hU0.trans hU6
  have hV:=hVd.ext hU6
  have b4n:=b4.ext hE
  have z2:=b4n.cell
  have z3:=b4n.frozen
  have hG:=hEW.trans hE
  go_wp2_with fail
  have q:=(b4n.set (.slice A5 l5 c5)).cell
  exact bodyPost_ret (v:=.agg #[.slice A5 l5 c5]) (by simp[results,Try.results17,go_sem,q]) rfl ⟨_,_,_,rfl,hV.far z2,hG.setCell (p:=⟨w.heap.size,0,none⟩) (.inr (Nat.le_refl _)) _⟩
end
set_option maxRecDepth 100000 in
set_option maxHeartbeats 4000000 in
theorem llives_any (w:World):Calls Try.prog 15 #[] w fun e w'=>e=.returned (.bool true)∧Ext w w':=by
  have hc1:=fun w=>Lib.run_convert_bytes_const (P:=Try.prog) w 23 5 #[.int .u8 120] 1 1 Try.under_bs Try.under8
  have hP:Fit 32 (grP 0):=(fit_grP 0).mono (by omega)
  have hQ:Fit 32 (grQ 0):=(fit_grQ 0).mono (by omega)
  have hGf:Fit 32 (grG 0):=(fit_grG 0).mono (by omega)
  have hQ1:1<grQ 0:=by decide
  have hmG:=gMem 0 (by omega)
  have hG1:grG 0^1 % grP 0=grG 0:=by decide+kernel
  obtain⟨P,hPe⟩:∃P,P=grP 0:=⟨_,rfl⟩
  obtain⟨Q,hQe⟩:∃Q,Q=grQ 0:=⟨_,rfl⟩
  obtain⟨G,hGe⟩:∃G,G=grG 0:=⟨_,rfl⟩
  rw[←hPe,←hQe,←hGe]at hmG
  rw[←hPe,←hGe]at hG1
  rw[←hPe]at hP
  rw[←hQe]at hQ hQ1
  rw[←hGe]at hGf
  have HPe:=hide hPe
  have HQe:=hide hQe
  have HGe:=hide hGe
  have HmG:=hide hmG
  have HG1:=hide hG1
  clear hPe hQe hGe hmG hG1
  have hF1:Fit 32 1:=fit1 (by decide) (by omega)
  obtain⟨X,hX⟩:∃X,X=bxS (keyB P Q G (nameB 1 2 3)) non12 (nameB 1 2 3) msgX:=⟨_,rfl⟩
  have hXo:bxO (keyB P Q G (nameB 1 2 3)) non12 (nameB 1 2 3) X=some msgX:=by rw[hX];exact bxO_rt _ _ _ _
  have HX:=hide hX
  have HXo:=hide hXo
  clear hX hXo
  go_enter Try.func15,Try.ntmps15
  go_wp2_with fail
  refine(ggroup_any 0 0 (by omega) w (fun w'=>gnums0_any 0 none 0 0 w' gnil0)).mono ?_
  rintro e w1 ⟨gr,rfl,hG,hU1⟩
  rw[←HPe.out,←HQe.out,←HGe.out]at hG
  go_wp2_with fail
  refine(new_any 1 _ (by decide)).mono ?_
  rintro e w2 ⟨A2,l2,c2,rfl,hV2,hU2⟩
  go_wp2_with fail
  refine(gG_any gr P Q G _ w2 (hG.ext hU2)).mono ?_
  rintro e w3 ⟨A3,l3,c3,rfl,hV3,hU3⟩
  go_wp2_with fail
  refine(lshared_any gr P Q G _ 32 w3 A2 A3 l2 c2 l3 c3 1 G (hG.ext (hU2.trans hU3)) (hV2.ext hU3) hV3 hF1 hGf hP hQ hGf (by omega) (by omega) (by omega) hQ1 HmG.out).mono ?_
  rw[HG1.out]
  rintro e w4 ⟨A4,l4,c4,rfl,hV4,hU4⟩
  have hE4:=((hU1.trans hU2).trans hU3).trans hU4
  have hG4:=hG.ext ((hU2.trans hU3).trans hU4)
  clear hG hU1 hU2 hU3 hU4 hV2 hV3
  have hEn:Ext w4 (w4.alloc (.cells #[.slice A4 l4 c4] 33)):=(Upd.refl _ _).alloc _
  have hEm:Ext w4 ((w4.alloc (.cells #[.slice A4 l4 c4] 33)).alloc (.cells #[.int .u8 120] 5 (1,2))):=hEn.alloc _
  have P1:Pt.ok ((w4.alloc (.cells #[.slice A4 l4 c4] 33)).alloc (.cells #[.int .u8 120] 5 (1,2))) ⟨some ⟨w4.heap.size+1,0,none⟩,1,1,msgX⟩:=by
   have:=Sl.mark by8 (w4.alloc (.cells #[.slice A4 l4 c4] 33)) 5 (1,2) msgX
   rw[show(w4.alloc (.cells #[.slice A4 l4 c4] 33)).heap.size=w4.heap.size+1 by simp]at this
   exact⟨this,rfl,Nat.le_refl _,by simp[maxLen]⟩
  have hc2:=Joins.run_convert_bytes_const_at (P:=Try.prog) (w4.alloc (.cells #[.slice A4 l4 c4] 33)) 23 5 #[.int .u8 120] 1 1 (w4.heap.size+1) (by simp) Try.under_bs Try.under8
  have q4:=(Box.new w4 33 (.slice A4 l4 c4)).cell
  have b2:Box ((w4.alloc (.cells #[.slice A4 l4 c4] 33)).alloc (.cells #[.int .u8 120] 5 (1,2))) w4.heap.size 33 (.slice A4 l4 c4):=(Box.new _ _ _).alloc _
  have HP1:=hide P1
  have HEm:=hide hEm
  clear P1 hEn hEm
  go_wp2_with fail
  clear q4 hc2
  refine(lseal_any gr P Q G _ 32 _ A4 (some ⟨w4.heap.size+1,0,none⟩) l4 c4 G 1 2 3 1 1 msgX (hG4.ext HEm.out) (hV4.ext HEm.out) hGf hP hQ (by omega) (by omega) HmG.out (by omega) (by omega) (by omega) HP1.out (by omega)).mono ?_
  rw[←HX.out]
  rintro e w5 ⟨A5,c5,rfl,hl5,hO5,hU5⟩
  have hp5:=hide (Own.mpt hO5 hl5.symm)
  have hE5:=(hE4.trans HEm.out).trans hU5
  have hG5:=hG4.ext (HEm.out.trans hU5)
  have hV5:=hV4.ext (HEm.out.trans hU5)
  have b5:=b2.ext hU5
  have q5:=b5.cell
  clear HP1 hE4 hG4 hV4 b2 hl5 hO5
  go_wp2_with fail
  clear q5
  refine(lopen_any gr P Q G _ 32 _ A4 A5 l4 c4 G 1 2 3 1 c5 X hG5 hV5 hGf hP hQ (by omega) (by omega) HmG.out (by omega) (by omega) (by omega) hp5.out (by omega)).mono ?_
  rw[HXo.out]
  rintro e w6 ⟨A6,c6,rfl, -,hO6,hU6⟩
  have hd:Ext w6 w6.drew:=(Upd.refl _ w6).drew
  have hE6:=(hE5.trans hU6).trans hd
  have hG6:=hG5.ext (hU6.trans hd)
  have hV6:=hV5.ext (hU6.trans hd)
  have b6:=b5.ext (hU6.trans hd)
  have htx:=str_cls (n:=1) (c:=c6) (hO6.sl.ext hd) (rfl:msgX.length=1)
  have hst:((str msgX).toList == [120])=true:=by decide+kernel
  have q2:=fun y:Wd (Ext w6.drew)=>y.ok.cellv b6.cell
  clear hO6 hp5 b5 hG5 hV5 hE5
  go_wp2_with fail
  refine wp_region_plan (Ext _) 22 [(false,0),(false,1),(false,2),(false,3),(false,4),(false,5),(false,6),(false,7),(false,8),(false,9),(false,10),(false,11),(false,12),(true,13),(true,14),(false,15),(false,16),(false,17),(false,18),(false,19),(false,20),(false,21)] (by kernel_rfl) (by kernel_rfl) (Upd.refl _ _) (fun hne=>?_)
  repeat (refine head_q rfl (fun K hK=>?_);have hK2:=hide hK;clear hK;go_simp;refine hK2.out _ ?_;clear hK2 K)
  refine head_l rfl ?_
  go_wp2_with (go_at_call 12;go_must (refine(gG_any gr P Q G _ _ hG6).mono ?_);rintro e u1 ⟨A7,l7,c7,rfl,hV7,hu1⟩)
  refine⟨Cls (Ext _),fun _ h=>h,⟨⟨_,hu1⟩,rfl⟩,?_⟩
  repeat (refine head_q rfl (fun K hK=>?_);have hK2:=hide hK;clear hK;go_simp;refine hK2.out _ ?_;clear hK2 K)
  refine head_l rfl ?_
  go_wp2_with (go_at_call 20;go_must (refine(cmp_any _ _ G G 32 _ (hV6.ext hu1) hV7 hGf hGf (by omega)).mono ?_);rw[cmpI_aa];rintro e u2 ⟨rfl,hu2⟩;replace hu2:=hu1.trans hu2)
  refine⟨Cls (Ext _),fun _ h=>h,⟨⟨_,hu2⟩,rfl⟩,?_⟩
  repeat (refine head_q rfl (fun K hK=>?_);have hK2:=hide hK;clear hK;go_simp;refine hK2.out _ ?_;clear hK2 K)
  refine head_nil ?_
  try simp only[List.drop_succ_cons,List.drop_zero]
  have hEE:=hE6.trans hu2
  clear q2 htx
  go_wp2_with fail
  go_ret
  exact⟨rfl,hEE⟩
end Go.Proofs.Ytbhhjfhepkbfgaa
