/- WireSigns, walked. -/
import Derived.Test.YtbhhjfhepkbfgaaGreatWsWho
import Derived.Test.YtbhhjfhepkbfgaaGreatWsSgnV
namespace Go.Proofs.YtbhhjfhepkbfgaaGreat
set_option linter.unusedSimpArgs false
set_option linter.unusedVariables false
open Go.RowKit
open Nt Sha
attribute [local go_sem] steady steadyUpon Cls same_cell
attribute [local irreducible] wpHead wpTree sum chalOf str En.ok En.bytes Vo.ok Vo.bytes entryR voteR
theorem RetDec.any {w w':World} {b:List B8} {e:Ending} (h:RetDec w b e w'):Ext w w'∧∃(k a p m q f er:Int) (A1 A2 A3:Option Addr) (l1 c1 l2 c2 l3 c3:Nat),e=.returned (.tuple #[.agg #[.int .i64 k,.int .i64 a,.int .i64 p,.int .i64 m,.int .i64 q,.int .i64 f,.slice A1 l1 c1,.slice A2 l2 c2,.slice A3 l3 c3],.int .i64 er])∧(er=0∨er=3)∧(IsE b→er=0):=by
 by_cases hE:IsE b
 · obtain⟨w0,x,h1,h2,rfl⟩:=hE
   obtain⟨z,rfl, -,hU, -⟩:=h.back h2 h1
   exact⟨hU,_,_,_,_,_,_,_,_,_,_,_,_,_,_,_,_,rfl,.inl rfl,fun _=>rfl⟩
 · obtain⟨hU,⟨z,rfl,h1,h2,h3⟩ | rfl⟩:=h.ways
   · exact absurd ⟨w',z,h1,h2,h3⟩ hE
   · exact⟨hU,_,_,_,_,_,_,_,_,_,_,_,_,_,_,_,_,rfl,.inr rfl,fun h=>absurd h hE⟩
theorem RetDecV.any {w w':World} {b:List B8} {e:Ending} (h:RetDecV w b e w'):Ext w w'∧∃(k a p m q er:Int) (A1:Option Addr) (l1 c1:Nat),e=.returned (.tuple #[.agg #[.int .i64 k,.int .i64 a,.int .i64 p,.int .i64 m,.int .i64 q,.slice A1 l1 c1],.int .i64 er])∧(er=0∨er=3)∧(IsV b→er=0):=by
 by_cases hE:IsV b
 · obtain⟨x,h1,h2,rfl⟩:=hE
   obtain⟨z,rfl, -,hU, -⟩:=h.back h1 h2
   exact⟨hU,_,_,_,_,_,_,_,_,_,rfl,.inl rfl,fun _=>rfl⟩
 · obtain⟨hU,⟨z,rfl,h1,h2,h3⟩ | rfl⟩:=h.ways
   · exact absurd ⟨z,h2,h1.len,h3⟩ hE
   · exact⟨hU,_,_,_,_,_,_,_,_,_,rfl,.inr rfl,fun h=>absurd h hE⟩
def keyW (Q x:Nat):Nat:=if x % Q=0 then 1 else x % Q
theorem keyW_in {Q:Nat} (x:Nat) (hQ:64<Q):0<keyW Q x∧keyW Q x<Q:=by
 have:=Nat.mod_lt x (show 0<Q by omega)
 unfold keyW
 split<;>omega
theorem rep_svt (t:Tri) (j:Nat):(List.replicate j t++[t])=List.replicate (j+1) t:=by rw[List.replicate_succ']
theorem keys_natL {w:World} {B:Nat} {D:Option Addr} {cD n y:Nat} {t:Tri} (h:Own w B 39 D cD ((List.replicate n t).map svt)) (hV:NatV w (.agg #[svt t]) y):NatL w D (List.replicate n y):=
 ⟨List.replicate n t,by simp,h.sl,fun i hi=>by
   rw[List.length_replicate]at hi
   rw[gat_replicate hi,gat_replicate hi]
   exact hV⟩
set_option maxRecDepth 100000 in
set_option maxHeartbeats 8000000 in
theorem wsigns_any (z:Int) (r:Nat) (hr:r<3) (key:Nat) (x:Pl) (R:Option Addr) (rn rc:Nat) (raw:List B8) (w:World) (hnum:∀w',Calls Tryz.prog 23 #[.int .i64 z,.slice none 0 0] w' (RetNums w' r none 0 0))
 (hk64:key<18446744073709551616) (hx:PlOk w x) (hM:Pt.ok w ⟨R,rn,rc,raw⟩):
 Calls Tryz.prog 3 #[.int .i64 z,.int .u64 (key:Nat),.agg x.cs,.slice R rn rc] w fun e w'=>e=.returned (.bool true)∧Ext w w':=by
 have Hnum:=hide hnum
 have hP:Fit 32 (grP r):=(fit_grP r).mono (by omega)
 have hQ:Fit 32 (grQ r):=(fit_grQ r).mono (by omega)
 have hGf:Fit 32 (grG r):=(fit_grG r).mono (by omega)
 have hHf:Fit 32 (grH r):=(fit_grH r).mono (by omega)
 have hgok:GOk (grP r) (grQ r) (grG r):=gok r hr
 have hz128:byteSz (grQ r)≤128:=szQ r
 obtain⟨P,hPe⟩:∃P,P=grP r:=⟨_,rfl⟩
 obtain⟨Q,hQe⟩:∃Q,Q=grQ r:=⟨_,rfl⟩
 obtain⟨G,hGe⟩:∃G,G=grG r:=⟨_,rfl⟩
 obtain⟨H,hHe⟩:∃H,H=grH r:=⟨_,rfl⟩
 rw[←hPe,←hQe,←hGe]at hgok
 rw[←hPe]at hP
 rw[←hQe]at hQ hz128
 rw[←hGe]at hGf
 rw[←hHe]at hHf
 have HPe:=hide hPe
 have HQe:=hide hQe
 have HGe:=hide hGe
 have HHe:=hide hHe
 have hP2:=hgok.two
 have hQ64:=hgok.sml
 have hPb:blen P≤1024:=Nat.le_trans hP.blen (by omega)
 have hQb:blen Q≤1024:=Nat.le_trans hQ.blen (by omega)
 have hGb:blen G≤1024:=Nat.le_trans hGf.blen (by omega)
 have hFk:Fit 32 key:=(fit2 hk64).mono (by omega)
 have hkk:=keyW_in key hQ64
 have hFkk:Fit 32 (keyW Q key):=hQ.le (Nat.le_of_lt hkk.2)
 obtain⟨N2,hN2⟩:∃N2,N2=2*byteSz Q:=⟨_,rfl⟩
 have HN2:=hide hN2
 have HX:=hide hx
 have HM:=hide hM
 have hN2m:N2≤256:=by omega
 clear hnum hPe hQe hGe hHe hx hM hN2
 unfold Pl.cs
 go_enter Tryz.func3,Tryz.ntmps3
 go_upto_region 1 with fail
 refine name_w (fun W hW=>?_)
 have hb:Blk W w.heap.size 26 x.cs:=by rw[hW];exact Blk.new _ _ _
 have hE:Ext w W:=by rw[hW];exact(Upd.refl _ _).alloc _
 clear hW
 go_wp2_with fail
 refine(wlives_any _).mono ?_
 rintro e w1 ⟨rfl,hU1⟩
 have hb1:=hb.ext hU1
 have hE1:=hE.trans hU1
 have q0:w1.cell? ⟨w.heap.size,0,none⟩=some (.int .i64 x.K):=hb1.at 0 rfl
 have q1:w1.cell? ⟨w.heap.size,1,none⟩=some (.int .i64 x.au):=hb1.at 1 rfl
 have q2:w1.cell? ⟨w.heap.size,2,none⟩=some (.int .i64 x.ep):=hb1.at 2 rfl
 have q3:w1.cell? ⟨w.heap.size,3,none⟩=some (.int .i64 x.mode):=hb1.at 3 rfl
 have q4:w1.cell? ⟨w.heap.size,4,none⟩=some (.int .i64 x.peer):=hb1.at 4 rfl
 have q5:w1.cell? ⟨w.heap.size,5,none⟩=some (.int .i64 x.phase):=hb1.at 5 rfl
 have q6:w1.cell? ⟨w.heap.size,6,none⟩=some (.slice x.L1 x.ln x.c1):=hb1.at 6 rfl
 have q7:w1.cell? ⟨w.heap.size,7,none⟩=some (.slice x.L2 x.lt x.c2):=hb1.at 7 rfl
 have q8:w1.cell? ⟨w.heap.size,8,none⟩=some (.slice x.P x.lp x.c3):=hb1.at 8 rfl
 clear hb hU1 hE
 go_wp2_with fail
 refine(wfew_any x w1 (HX.out.ext hE1)).mono ?_
 rintro e w2 ⟨b,rfl,hU2,hfew⟩
 have hE2:=hE1.trans hU2
 have HB2:=hide (hb1.ext hU2)
 have HE2:=hide hE2
 have Hf:=hide hfew
 clear hE1 hU2 hb1 hE2 hfew q0 q1 q2 q3 q4 q5 q6 q7 q8
 cases b with
 | false=>
   go_wp2_with fail
   refine(wlives_any _).mono ?_
   rintro e w9 ⟨rfl,hU9⟩
   have hEf:=HE2.out.trans hU9
   go_wp2_with fail
   go_ret
   exact⟨rfl,hEf⟩
 | true=>
   obtain⟨h100, -, -⟩:=Hf.out rfl
   have H100:=hide h100
   by_cases hrn:300<rn
   · have n1I:(300:Int)<(rn:Int):=by omega
     go_wp2_with fail
     refine(wlives_any _).mono ?_
     rintro e w9 ⟨rfl,hU9⟩
     have hEf:=HE2.out.trans hU9
     go_wp2_with fail
     go_ret
     exact⟨rfl,hEf⟩
   have n1I:¬(300:Int)<(rn:Int):=by omega
   clear h100 Hf
   go_wp2_with fail
   refine(ggroup_any z r hr _ Hnum.out).mono ?_
   rintro e w3 ⟨gr,rfl,hG,hU3⟩
   rw[←HPe.out,←HQe.out,←HGe.out,←HHe.out]at hG
   go_wp2_with fail
   refine(gref_any gr P Q G H 32 _ hG hP hQ hGf hHf (by omega)).mono ?_
   rintro e w4 ⟨vg,rfl,hR,hU4⟩
   have hR0:=hR
   obtain⟨B1,m1,d1,B2,m2,d2,B3,m3,d3,B4,m4,d4,rfl, -⟩:=hR0
   go_wp2_with fail
   refine name_c (fun W4 hW4=>?_)
   have h44:Ext w4 W4:=by rw[hW4];exact(Upd.refl _ _).alloc _
   have b10:Blk W4 w4.heap.size 34 #[.slice B1 m1 d1,.slice B2 m2 d2,.slice B3 m3 d3,.slice B4 m4 d4]:=by rw[hW4];exact Blk.new _ _ _
   have hG4:=hG.ext (hU4.trans h44)
   have hR4:=hR.ext h44
   have h24:=(hU3.trans hU4).trans h44
   clear hW4 hU3 hU4 hG hR h44
   refine(gField_any gr P Q G H _ hG4).mono ?_
   rintro e w5 ⟨gq,rfl,hRq,rfl⟩
   go_wp2_with fail
   refine(new_any key _ hk64).mono ?_
   rintro e w6 ⟨A6,l6,c6,rfl,hV6,hU6⟩
   go_wp2_with fail
   refine(mof_any _ gq key Q 32 _ (hRq.ext hU6) hV6 hFk hQ (by omega)).mono ?_
   rintro e w7 ⟨A7,l7,c7,rfl,hV7,hU7⟩
   have q12:=(Box.new w7 39 (.slice A7 l7 c7)).cell
   go_wp2_with fail
   clear q12
   refine name_c (fun V hV=>?_)
   have h5V:Ext w5 V:=by rw[hV];exact(hU6.trans hU7).alloc _
   have b12:Box V w7.heap.size 39 (.slice A7 l7 c7):=by rw[hV];exact Box.new _ _ _
   have hVd:NatV V (.agg #[.slice A7 l7 c7]) (key % Q):=by rw[hV];exact hV7.ext ((Upd.refl _ _).alloc _)
   have hs7:=(hU6.trans hU7).size
   clear hV hU6 hU7 hV6 hV7 hRq
   refine(zero_any _ (key % Q) _ hVd).mono ?_
   obtain⟨zb,hzb⟩:∃b,b=decide (key % Q=0):=⟨_,rfl⟩
   rw[←hzb]
   rintro e w8 ⟨rfl,hU8⟩
   have Hzb:=hide hzb
   clear hzb
   have b12':=b12.ext hU8
   have hVd':=hVd.ext hU8
   have h58:=h5V.trans hU8
   clear b12 hVd h5V hU8
   go_upto_if 56 with fail
   go_cut [] (fun wx=>∃(AK:Option Addr) (lK cK:Nat),Box wx w7.heap.size 39 (.slice AK lK cK)∧NatV wx (.agg #[.slice AK lK cK]) (keyW Q key)∧Ext w5 wx)
   case first=>
    cases zb with
    | true=>
      have hd0:key % Q=0:=of_decide_eq_true Hzb.out.symm
      go_wp2_with fail
      refine(new_any 1 _ (by decide)).mono ?_
      rintro e w9 ⟨AK,lK,cK,rfl,hV9,hU9⟩
      have b12q:=b12'.ext hU9
      have z2:=b12q.cell
      have z3:=b12q.frozen
      have b12n:=b12q.set (.slice AK lK cK)
      have hVn:NatV w9 (.agg #[.slice AK lK cK]) (keyW Q key):=by unfold keyW;rw[if_pos hd0];exact hV9
      have hVK:=hVn.far (v:=.slice AK lK cK) z2
      have hX:=(h58.trans hU9).setCell (p:=⟨w7.heap.size,0,none⟩) (.inr hs7) (.slice AK lK cK)
      clear hd0
      go_wp2_with fail
      go_meet
      exact⟨AK,lK,cK,b12n,hVK,hX⟩
    | false=>
      have hd0:¬key % Q=0:=of_decide_eq_false Hzb.out.symm
      have hVn:NatV w8 (.agg #[.slice A7 l7 c7]) (keyW Q key):=by unfold keyW;rw[if_neg hd0];exact hVd'
      clear hd0
      go_wp2_with fail
      go_meet
      exact⟨_,_,_,b12',hVn,h58⟩
   case rest=>
    obtain⟨AK,lK,cK,k12,hVK,h5C⟩:=hcut
    obtain⟨g12,hg12⟩:∃g,g=w7.heap.size:=⟨_,rfl⟩
    rw[←hg12]at k12
    obtain⟨C0,hC0⟩:∃C,C=wc:=⟨_,rfl⟩
    subst hC0
    obtain⟨y,hy⟩:∃y,y=G^keyW Q key % P:=⟨_,rfl⟩
    have hFy:Fit 32 y:=by rw[hy];exact hP.le (Nat.le_of_lt (Nat.mod_lt _ (by omega)))
    have hyb:blen y≤1024:=Nat.le_trans hFy.blen (by omega)
    have Hyy:=hide hy
    clear hy b12' hVd' h58 hs7 Hzb
    have q12:=k12.cell
    rw[hg12]at q12
    go_wp2_with fail
    clear q12
    refine(spub_any gr P Q G H 32 _ _ (keyW Q key) (hG4.ext h5C) hVK hFkk hQ hP hGf (by omega) hkk.1 hkk.2).mono ?_
    rw[←Hyy.out]
    rintro e w9 ⟨A9,l9,c9,rfl,hV9,hU9⟩
    go_wp2_with fail
    refine name_w (fun B hB=>?_)
    have h9B:Ext w9 B:=by rw[hB];exact(Upd.refl _ _).alloc _
    have b13:Box B w9.heap.size 39 (.slice A9 l9 c9):=by rw[hB];exact Box.new _ _ _
    have hVy:=hV9.ext h9B
    have h5B:=(h5C.trans hU9).trans h9B
    have k12b:=k12.ext (hU9.trans h9B)
    have hVKb:=hVK.ext (hU9.trans h9B)
    clear hB h9B hU9 hV9 k12 hVK h5C
    go_wp2_with fail
    go_loopw [64,11] (fun i v wr=>∃(j:Nat) (D:Option Addr) (cD:Nat),j≤8∧i=.int .i64 (j:Int)∧v=.slice D j cD∧Own wr B.heap.size 39 D cD ((List.replicate j ((A9,l9,c9):Tri)).map svt)∧Ext B wr) (fun i _ _=>8 - (intOf i).toNat)
    case atStart=>exact⟨0,none,0,Nat.zero_le _,rfl,rfl,Own.nil,Upd.refl _ _⟩
    case round=>
     obtain⟨j,D,cD,hj,rfl,rfl,hO,hEr⟩:=hrel
     have HO:=hide hO
     have q13:=(b13.ext hEr).cell
     clear hO
     by_cases hlt:j<8
     case pos=>
      have hltI:((j:Int)<8):=by omega
      have hBs:=hEr.size
      go_wp2_with (at_builtin;go_must (refine wpList_apd svt svt_one Tryz.n_elN (List.replicate j ((A9,l9,c9):Tri)) [((A9,l9,c9):Tri)] (List.replicate (j+1) ((A9,l9,c9):Tri)) (j+1) (rep_svt _ _) (by simp) (by omega) (by unfold maxLen;omega) rfl rfl rfl (by simp) (HO.out.ext ((Upd.refl _ _).alloc _)) rfl rfl (Sl.new svt wr 39 [((A9,l9,c9):Tri)]) (by simp;omega) ?_);intro D5 c5 w5 hO5 hU5 hin5;have hE5:=upd_new hU5 (hEr.alloc _) (fun k hk=>(HO.out.in_ hk).1);clear hin5 hU5)
      go_roundw
      case rel=>exact⟨j+1,D5,c5,by omega,by go_num,rfl,hO5,hE5⟩
      case measure=>simp[intOf]<;>omega
     case neg=>
      obtain rfl:j=8:=by omega
      rw[show((8:Nat):Int)=8 from rfl]
      have hnI:¬((8:Int)<8):=by decide
      have hKL:NatL wr D (List.replicate 8 y):=keys_natL HO.out (hVy.ext hEr)
      have HKL:=hide hKL
      have h2r:=h24.trans (h5B.trans hEr)
      have hb1:=HB2.out.ext h2r
      have q0:wr.cell? ⟨w.heap.size,0,none⟩=some (.int .i64 x.K):=hb1.at 0 rfl
      have q1:wr.cell? ⟨w.heap.size,1,none⟩=some (.int .i64 x.au):=hb1.at 1 rfl
      have q2:wr.cell? ⟨w.heap.size,2,none⟩=some (.int .i64 x.ep):=hb1.at 2 rfl
      have q3:wr.cell? ⟨w.heap.size,3,none⟩=some (.int .i64 x.mode):=hb1.at 3 rfl
      have q4:wr.cell? ⟨w.heap.size,4,none⟩=some (.int .i64 x.peer):=hb1.at 4 rfl
      have q5:wr.cell? ⟨w.heap.size,5,none⟩=some (.int .i64 x.phase):=hb1.at 5 rfl
      have q6:wr.cell? ⟨w.heap.size,6,none⟩=some (.slice x.L1 x.ln x.c1):=hb1.at 6 rfl
      have q7:wr.cell? ⟨w.heap.size,7,none⟩=some (.slice x.L2 x.lt x.c2):=hb1.at 7 rfl
      have q8:wr.cell? ⟨w.heap.size,8,none⟩=some (.slice x.P x.lp x.c3):=hb1.at 8 rfl
      clear hKL HO q13 hb1
      go_wp2_with fail
      refine(wof_any x wr (HX.out.ext (HE2.out.trans h2r)) H100.out).mono ?_
      rintro e v3 ⟨D2,cD2,F2,cF2,rfl,hU3,hNL,hRL⟩
      have HNL:=hide hNL
      clear q0 q1 q2 q3 q4 q5 q6 q7 q8 hNL hRL
      unfold ecs
      go_upto_region 17 with fail
      refine name_w (fun V hV=>?_)
      have b15:Blk V v3.heap.size 48 (ecs x (.slice D2 x.ln cD2)):=by rw[hV];exact(Blk.new _ _ _).ext ((Upd.refl _ _).alloc _)
      have hEV:Ext v3 V:=by rw[hV];exact((Upd.refl _ _).alloc _).alloc _
      have hrV:=hU3.trans hEV
      have h2V:=h2r.trans hrV
      clear hV hU3
      have q0:V.cell? ⟨v3.heap.size,0,none⟩=some (.int .i64 x.K):=b15.at 0 rfl
      have q1:V.cell? ⟨v3.heap.size,1,none⟩=some (.int .i64 x.au):=b15.at 1 rfl
      have q2:V.cell? ⟨v3.heap.size,2,none⟩=some (.int .i64 x.ep):=b15.at 2 rfl
      have q3:V.cell? ⟨v3.heap.size,3,none⟩=some (.int .i64 x.mode):=b15.at 3 rfl
      have q4:V.cell? ⟨v3.heap.size,4,none⟩=some (.int .i64 x.peer):=b15.at 4 rfl
      have q5:V.cell? ⟨v3.heap.size,5,none⟩=some (.int .i64 x.phase):=b15.at 5 rfl
      have q6:V.cell? ⟨v3.heap.size,6,none⟩=some (.slice D2 x.ln cD2):=b15.at 6 rfl
      have q7:V.cell? ⟨v3.heap.size,7,none⟩=some (.slice x.L2 x.lt x.c2):=b15.at 7 rfl
      have q8:V.cell? ⟨v3.heap.size,8,none⟩=some (.slice x.P x.lp x.c3):=b15.at 8 rfl
      go_wp2_with fail
      have hEn:=plE_en (HX.out.ext (HE2.out.trans h2V)) cD2 (HNL.out.ext hEV) H100.out
      refine(encE_any (plE x D2 cD2) 12 V hEn (qnums_fit x) (by omega)).mono ?_
      rintro e v4 ⟨A,l,c,m,rfl,hU4,hy,hn⟩
      have Hy:=hide hy
      have Hn:=hide hn
      obtain⟨en,hen⟩:∃en,en=plE x D2 cD2:=⟨_,rfl⟩
      have hau:en.au=x.au:=by rw[hen];rfl
      rw[←hen]at Hy Hn hEn
      have Hau:=hide hau
      have HEn0:=hide hEn
      have h5z:=((h5B.trans hEr).trans hrV).trans hU4
      have hBz:=(hEr.trans hrV).trans hU4
      have hGz:=hG4.ext h5z
      have b10z:=b10.ext h5z
      have hRz:=hR4.ext h5z
      have k13z:=b13.ext hBz
      have n13z:=hVy.ext hBz
      have k12z:=k12b.ext hBz
      have nKz:=hVKb.ext hBz
      have HKz:=hide (HKL.out.ext (hrV.trans hU4))
      have HEz:=hide ((HE2.out.trans h2V).trans hU4)
      have q1z:v4.cell? ⟨v3.heap.size,1,none⟩=some (.int .i64 x.au):=(b15.ext hU4).at 1 rfl
      clear q0 q1 q2 q3 q4 q5 q6 q7 q8 hy hn hen hau hEn h5z hBz HKL HNL hrV h2V h2r hEV hEr b15 hU4 b10 hR4 hG4 b13 hVy k12b hVKb h5B h24
      obtain⟨ok,hok⟩:∃ok,ok=en.ok:=⟨_,rfl⟩
      rw[←hok]at Hy Hn
      have Hok:=hide hok
      clear hok
      go_upto_if 82 with fail
      go_cut [] (fun wx=>Ext v4 wx)
      case first=>
       cases ok with
       | false=>
         obtain⟨rfl,rfl,rfl⟩:=Hn.out rfl
         go_wp2_with fail
         go_meet
         exact Upd.refl _ _
       | true=>
         obtain⟨rfl,hl,hO⟩:=Hy.out rfl
         have hlm:l≤4096:=by rw[←hl];exact En.ok_len Hok.out.symm
         obtain⟨bts,hbts⟩:∃b,b=en.bytes:=⟨_,rfl⟩
         rw[←hbts]at hl hO
         have hpt:=hide (Own.mpt hO hl)
         have Hbts:=hide hbts
         have Hl:=hide hl
         obtain⟨sg,hsg⟩:∃s,s=signB P Q G (keyW Q key) bts:=⟨_,rfl⟩
         have hsl:sg.length=N2:=by rw[hsg,signB_length,HN2.out]
         have hsv:verB P Q G y bts sg=true:=by rw[hsg,Hyy.out];exact hgok.signed _ _
         have Hsg:=hide hsg
         have Hsl:=hide hsl
         have Hsv:=hide hsv
         obtain⟨NN,hNN⟩:∃q,q=l+N2:=⟨_,rfl⟩
         have hNI:(l:Int)+(N2:Int)=(NN:Int):=by omega
         have HNN:=hide hNN
         have hNm:NN≤10000:=by omega
         clear hl hO hbts hsg hsl hsv hNN
         have q12:=k12z.cell
         rw[hg12]at q12
         go_wp2_with fail
         clear q12
         refine(wsign_any gr P Q G H v4 AK A lK cK (keyW Q key) l c bts hGz nKz hpt.out hFkk hQ hP hGf (by omega) hkk.1 hkk.2 (by omega)).mono ?_
         rw[←HN2.out,←Hsg.out,←HNN.out]
         rintro e v5 ⟨A5,c5,rfl,hl5,hO5,hU5⟩
         have hp5:=hide (Own.mpt hO5 hl5)
         clear hl5 hO5
         go_wp2_with fail
         refine(wopen_any gr P Q G H v5 D A5 8 cD NN c5 y (bts++sg) (hGz.ext hU5) (HKz.out.ext hU5) hp5.out (by omega) (by omega) hFy hQ hP hGf hz128 hP2).mono ?_
         rw[←HN2.out]
         rintro e v6 ⟨C,nC,cC,who,er,rfl,⟨hway,hthird⟩,hU6⟩
         have h3:=hthird V en sg HEn0.out Hok.out.symm (by rw[Hbts.out]) Hsl.out (by rw[←Hbts.out];exact Hsv.out)
         rw[Hau.out]at h3
         have h46:=hU5.trans hU6
         clear hthird
         by_cases hau:(8:Int)<x.au
         · obtain rfl:er=6:=h3.2 (by show((8:Nat):Int)<_;exact hau)
           obtain⟨rfl,rfl⟩:nC=0∧who=0:=by
            rcases hway with ⟨a,b, -⟩ | ⟨a, -⟩
            · exact⟨a,b⟩
            · cases a
           clear hway h3
           go_wp2_with fail
           refine(ssize_any gr P Q G H 32 v6 (hGz.ext h46) hQ (by omega)).mono ?_
           rw[←HN2.out]
           rintro e v7 ⟨rfl,hU7⟩
           have q1:=(h46.trans hU7).cellv q1z
           have hEf:=HEz.out.trans (h46.trans hU7)
           go_wp2_with fail
           go_ret
           exact⟨rfl,hEf⟩
         · obtain⟨rfl,rfl⟩:=h3.1 (by show x.au≤((8:Nat):Int);omega)
           obtain⟨hn6,hp6⟩:nC+N2=(bts++sg).length∧Pt.ok v6 ⟨C,nC,cC,(bts++sg).take nC⟩:=by
            rcases hway with ⟨-, -,a⟩ | ⟨-,a,b, -⟩
            · rcases a with a | a | a<;>cases a
            · exact⟨a,b⟩
           have hnl:nC=l:=by rw[List.length_append,Hl.out,Hsl.out]at hn6;omega
           subst hnl
           rw[List.take_left' Hl.out]at hp6
           have Hp6:=hide hp6
           clear hway h3 hn6 hp6
           go_wp2_with fail
           refine(ssize_any gr P Q G H 32 v6 (hGz.ext h46) hQ (by omega)).mono ?_
           rw[←HN2.out]
           rintro e v7 ⟨rfl,hU7⟩
           have h47:=h46.trans hU7
           have q1:=h47.cellv q1z
           have hk1:=run_str (P:=Tryz.prog) (c:=cC) Tryz.under_bs Tryz.under8 Tryz.underS (Hp6.out.1.ext hU7) Hl.out
           have hk2:=run_str (P:=Tryz.prog) (c:=c) Tryz.under_bs Tryz.under8 Tryz.underS (hpt.out.1.ext h47) Hl.out
           obtain⟨ST,hST⟩:∃ST,ST=str bts:=⟨_,rfl⟩
           rw[←hST]at hk1 hk2
           clear hST
           go_wp2_with fail
           go_meet
           exact h47
      case rest=>
       obtain⟨Y,hY⟩:∃Y,Y=wc:=⟨_,rfl⟩
       subst hY
       have hzY:Ext v4 Y:=hcut
       have hGy:=hGz.ext hzY
       have HEy:=HEz.out.trans hzY
       have hKy:=HKz.out.ext hzY
       go_wp2_with fail
       refine(wopen_any gr P Q G H Y D R 8 cD rn rc y raw hGy hKy (HM.out.ext HEy) (by omega) (by omega) hFy hQ hP hGf hz128 hP2).mono ?_
       rw[←HN2.out]
       rintro e v5 ⟨C,nC,cC,who,er,rfl,⟨hway, -⟩,hU5⟩
       rcases hway with ⟨rfl,rfl,her⟩ | ⟨rfl,hnn,hpt,hw1,hw8,hEV,hVv⟩
       · have hEf:=HEy.trans hU5
         rcases her with rfl | rfl | rfl
         · go_wp2_with fail
           go_ret
           exact⟨rfl,hEf⟩
         · go_wp2_with fail
           go_ret
           exact⟨rfl,hEf⟩
         · go_wp2_with fail
           go_ret
           exact⟨rfl,hEf⟩
       · have hz5:=hzY.trans hU5
         replace hRz:=hRz.ext hz5
         replace b10z:=b10z.ext hz5
         replace k13z:=k13z.ext hz5
         replace n13z:=n13z.ext hz5
         have hrl:raw.length=rn:=HM.out.2.1
         have hrc:rn≤rc:=HM.out.2.2.1
         have hrm:rc≤maxLen:=HM.out.2.2.2
         rw[hrl]at hnn
         have hpd:Pt.ok w ⟨shA R rc nC,N2,rc - nC,raw.drop nC⟩:=⟨HM.out.1.shA (by rw[hrl];exact hrc),by rw[List.length_drop,hrl];show rn - nC=N2;omega,by show N2≤rc - nC;omega,by show rc - nC≤maxLen;omega⟩
         have hs2:∀w,(Instr.sliceAt 24 (.slice R rn rc) (some (.int .i64 (nC:Int))) none none).run Tryz.prog w=.ok (.slice (shA R rc nC) N2 (rc - nC)) w:=fun w=>by
           have:=run_cut_l Tryz.n_el8.under Tryz.n_sz8 R rn rc nC .i64 (by omega) w
           rwa [show rn - nC=N2 by omega]at this
         have hw8I:who≤8:=hw8
         obtain⟨bt,hbt⟩:∃t,t=raw.take nC:=⟨_,rfl⟩
         obtain⟨bd,hbd⟩:∃t,t=raw.drop nC:=⟨_,rfl⟩
         rw[←hbt]at hpt hEV hVv
         rw[←hbd]at hpd hVv
         have Hpt:=hide hpt
         have Hpd:=hide hpd
         have HV:=hide hVv
         have HEV:=hide hEV
         have HEz:=hide (HEy.trans hU5)
         have hnm:nC≤300:=by omega
         clear hbt hbd hpt hpd hVv hEV hw8 HEy hKy hGy hz5 hU5 hnn hzY HKz hGz k12z nKz q1z Hy Hn Hok hcut
         go_wp2_with fail
         refine(decE_any C nC cC bt v5 Hpt.out.1 Hpt.out.2.1 Hpt.out.2.2.1 Hpt.out.2.2.2).mono ?_
         rintro e v6 hr6
         obtain⟨hU6,k1,a1,p1,m1',q1',f1',e1,A1,A2,A3,l1,c1,l2,c2,l3,c3,rfl,he1,hE1⟩:=hr6.any
         clear hr6
         go_wp2_with fail
         refine name_c (fun V6 hV6=>?_)
         have hX6:Ext v5 V6:=by rw[hV6];exact hU6.alloc _
         clear hV6 hU6
         refine(decV_any C nC cC bt V6 (Hpt.out.1.ext hX6) Hpt.out.2.1 Hpt.out.2.2.1 Hpt.out.2.2.2).mono ?_
         rintro e v7 hr7
         obtain⟨hU7,k2,a2,p2,m2',q2',e2,A4,l4,c4,rfl,he2,hE2⟩:=hr7.any
         clear hr7
         have hX7:=hX6.trans hU7
         have Hcc:=hide (show e1=0∨e2=0 from HEV.out.imp hE1 hE2)
         clear hE1 hE2
         by_cases he:e1=0
         · subst he
           go_wp2_with fail
           refine name_w (fun T hT0=>?_)
           have hT:Ext v5 T:=by rw[hT0];exact hX7.alloc _
           clear hT0 he1 he2
           have q13:=fun y:Wd (Ext T.drew)=>y.ok.cellv (k13z.ext (hT.drew)).cell
           have y0:=fun y:Wd (Ext T.drew)=>y.ok.cellv ((b10z.ext (hT.drew)).at 0 rfl)
           have y1:=fun y:Wd (Ext T.drew)=>y.ok.cellv ((b10z.ext (hT.drew)).at 1 rfl)
           have y2:=fun y:Wd (Ext T.drew)=>y.ok.cellv ((b10z.ext (hT.drew)).at 2 rfl)
           have y3:=fun y:Wd (Ext T.drew)=>y.ok.cellv ((b10z.ext (hT.drew)).at 3 rfl)
           refine wp_region_plan (Ext _) 25 [(false,0),(false,1),(false,2),(false,3),(false,4),(false,5),(false,6),(false,7),(false,8),(false,9),(false,10),(false,11),(false,12),(false,13),(false,14),(false,15),(false,16),(false,18),(false,19),(false,20),(false,21),(false,22),(true,17),(true,23),(false,24)] (by kernel_rfl) (by kernel_rfl) (Upd.refl _ _) (fun hne=>?_)
           repeat (refine head_q rfl (fun K hK=>?_);have hK2:=hide hK;clear hK;go_simp;refine hK2.out _ ?_;clear hK2 K)
           refine head_l rfl ?_
           go_wp2_with (go_at_call 21;go_must (refine(gnum_any _ y 32 _ (n13z.ext hT.drew) hFy (by omega)).mono ?_);rintro e v1 ⟨B5,m5,d5,rfl,hR5,hv1⟩)
           refine⟨Cls (Ext _),fun _ h=>h,⟨⟨_,hv1⟩,rfl⟩,?_⟩
           repeat (refine head_q rfl (fun K hK=>?_);have hK2:=hide hK;clear hK;go_simp;refine hK2.out _ ?_;clear hK2 K)
           refine head_l rfl ?_
           go_wp2_with (go_at_call 20;go_must (refine(rver_any _ _ P Q G _ _ y C (shA R rc nC) nC cC N2 (rc - nC) bt bd (hRz.ext (hT.drew.trans hv1)) hR5 (Hpt.out.ext (hT.drew.trans hv1)) (Hpd.out.ext ((HEz.out.trans hT.drew).trans hv1)) hgok hPb hQb hGb hyb (by omega) hz128).mono ?_);rw[HV.out];rintro e v2 ⟨rfl,hv2⟩;replace hv2:=hv1.trans hv2)
           refine⟨Cls (Ext _),fun _ h=>h,⟨⟨_,hv2⟩,rfl⟩,?_⟩
           repeat (refine head_q rfl (fun K hK=>?_);have hK2:=hide hK;clear hK;go_simp;refine hK2.out _ ?_;clear hK2 K)
           refine head_nil ?_
           try simp only[List.drop_succ_cons,List.drop_zero]
           have hEf:=(HEz.out.trans hT.drew).trans hv2
           clear q13 y0 y1 y2 y3
           go_wp2_with fail
           go_ret
           exact⟨rfl,hEf⟩
         · obtain rfl:e1=3:=he1.resolve_left he
           obtain rfl:e2=0:=Hcc.out.resolve_left he
           go_wp2_with fail
           refine name_w (fun T hT0=>?_)
           have hT:Ext v5 T:=by rw[hT0];exact hX7.alloc _
           clear hT0 he1 he2 he
           have q13:=fun y:Wd (Ext T.drew)=>y.ok.cellv (k13z.ext (hT.drew)).cell
           have y0:=fun y:Wd (Ext T.drew)=>y.ok.cellv ((b10z.ext (hT.drew)).at 0 rfl)
           have y1:=fun y:Wd (Ext T.drew)=>y.ok.cellv ((b10z.ext (hT.drew)).at 1 rfl)
           have y2:=fun y:Wd (Ext T.drew)=>y.ok.cellv ((b10z.ext (hT.drew)).at 2 rfl)
           have y3:=fun y:Wd (Ext T.drew)=>y.ok.cellv ((b10z.ext (hT.drew)).at 3 rfl)
           refine wp_region_plan (Ext _) 25 [(false,0),(false,1),(false,2),(false,3),(false,4),(false,5),(false,6),(false,7),(false,8),(false,9),(false,10),(false,11),(false,12),(false,13),(false,14),(false,15),(false,16),(false,18),(false,19),(false,20),(false,21),(false,22),(true,17),(true,23),(false,24)] (by kernel_rfl) (by kernel_rfl) (Upd.refl _ _) (fun hne=>?_)
           repeat (refine head_q rfl (fun K hK=>?_);have hK2:=hide hK;clear hK;go_simp;refine hK2.out _ ?_;clear hK2 K)
           refine head_l rfl ?_
           go_wp2_with (go_at_call 21;go_must (refine(gnum_any _ y 32 _ (n13z.ext hT.drew) hFy (by omega)).mono ?_);rintro e v1 ⟨B5,m5,d5,rfl,hR5,hv1⟩)
           refine⟨Cls (Ext _),fun _ h=>h,⟨⟨_,hv1⟩,rfl⟩,?_⟩
           repeat (refine head_q rfl (fun K hK=>?_);have hK2:=hide hK;clear hK;go_simp;refine hK2.out _ ?_;clear hK2 K)
           refine head_l rfl ?_
           go_wp2_with (go_at_call 20;go_must (refine(rver_any _ _ P Q G _ _ y C (shA R rc nC) nC cC N2 (rc - nC) bt bd (hRz.ext (hT.drew.trans hv1)) hR5 (Hpt.out.ext (hT.drew.trans hv1)) (Hpd.out.ext ((HEz.out.trans hT.drew).trans hv1)) hgok hPb hQb hGb hyb (by omega) hz128).mono ?_);rw[HV.out];rintro e v2 ⟨rfl,hv2⟩;replace hv2:=hv1.trans hv2)
           refine⟨Cls (Ext _),fun _ h=>h,⟨⟨_,hv2⟩,rfl⟩,?_⟩
           repeat (refine head_q rfl (fun K hK=>?_);have hK2:=hide hK;clear hK;go_simp;refine hK2.out _ ?_;clear hK2 K)
           refine head_nil ?_
           try simp only[List.drop_succ_cons,List.drop_zero]
           have hEf:=(HEz.out.trans hT.drew).trans hv2
           clear q13 y0 y1 y2 y3
           go_wp2_with fail
           go_ret
           exact⟨rfl,hEf⟩
end Go.Proofs.YtbhhjfhepkbfgaaGreat
