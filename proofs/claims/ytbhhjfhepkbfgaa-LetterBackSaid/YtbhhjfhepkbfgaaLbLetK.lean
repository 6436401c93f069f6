/- LetterBack, walked. -/
import Derived.Test.YtbhhjfhepkbfgaaLbLetL
namespace Go.Proofs.Ytbhhjfhepkbfgaa
set_option linter.unusedSimpArgs false
set_option linter.unusedVariables false
open Go.RowKit
open Nt Sha Strm
attribute [local go_sem] steady steadyUpon Cls same_cell anyW
attribute [local irreducible] wpHead wpTree wpHeadR Sha.sum bxO bxS keyB str
theorem lu64_mod (z:Int) (q:Nat) (hq:0<q) (hq2:q<100000):∃K:Nat,(IntKind.u64.wrap z).tmod (q:Int)=(K:Int)∧K<q:=by
 have hw0:0≤IntKind.u64.wrap z:=by unfold IntKind.wrap;exact Int.emod_nonneg _ (by decide)
 rw[Int.tmod_eq_emod_of_nonneg hw0]
 refine⟨(IntKind.u64.wrap z % (q:Int)).toNat,(Int.toNat_of_nonneg (Int.emod_nonneg _ (by omega))).symm,?_⟩
 have:=Int.emod_lt_of_pos (IntKind.u64.wrap z) (show(0:Int)<(q:Int) by omega)
 omega
theorem lback_few (z x y s f t:Int) (A:Option Addr) (n c:Nat) (w:World) (h:200<n):
 Calls Try.prog 4 #[.int .i64 z,.int .u64 x,.int .u64 y,.int .i64 s,.int .i64 f,.int .i64 t,.slice A n c] w fun e w'=>e=.returned (.bool true)∧Ext w w':=by
 have n1I:(200:Int)<(n:Int):=by omega
 go_enter Try.func4,Try.ntmps4
 go_wp2_with fail
 refine(llives_any w).mono ?_
 rintro e w1 ⟨rfl,hU1⟩
 go_wp2_with fail
 refine(llives_any w1).mono ?_
 rintro e w2 ⟨rfl,hU2⟩
 have hE:=hU1.trans hU2
 go_wp2_with fail
 go_ret
 exact⟨rfl,hE⟩
set_option maxRecDepth 100000 in
set_option maxHeartbeats 8000000 in
theorem lback_good (z:Int) (r:Nat) (hr:r<3) (x y:Nat) (s f t:Int) (A:Option Addr) (n c:Nat) (b:List (BitVec 8)) (w:World) (hnum:∀w',Calls Try.prog 48 #[.int .i64 z,.slice none 0 0] w' (RetNums w' r none 0 0))
 (hx64:x<18446744073709551616) (hy64:y<18446744073709551616) (hM:Pt.ok w ⟨A,n,c,b⟩) (hn:n≤200):
 Calls Try.prog 4 #[.int .i64 z,.int .u64 (x:Nat),.int .u64 (y:Nat),.int .i64 s,.int .i64 f,.int .i64 t,.slice A n c] w fun e w'=>e=.returned (.bool true)∧Ext w w':=by
 have Hnum:=hide hnum
 have hP:Fit 32 (grP r):=(fit_grP r).mono (by omega)
 have hQ:Fit 32 (grQ r):=(fit_grQ r).mono (by omega)
 have hGf:Fit 32 (grG r):=(fit_grG r).mono (by omega)
 have hgok:GOk (grP r) (grQ r) (grG r):=gok r hr
 obtain⟨P,hPe⟩:∃P,P=grP r:=⟨_,rfl⟩
 obtain⟨Q,hQe⟩:∃Q,Q=grQ r:=⟨_,rfl⟩
 obtain⟨G,hGe⟩:∃G,G=grG r:=⟨_,rfl⟩
 rw[←hPe,←hQe,←hGe]at hgok
 rw[←hPe]at hP
 rw[←hQe]at hQ
 rw[←hGe]at hGf
 have HPe:=hide hPe
 have HQe:=hide hQe
 have HGe:=hide hGe
 have hP2:=hgok.two
 have hQ64:=hgok.sml
 have HM:=hide hM
 have n1I:¬(200:Int)<(n:Int):=by omega
 obtain⟨s1,hs1,hs2⟩:=lu64_mod s 1000 (by decide) (by decide)
 obtain⟨f0,hf1,hf2⟩:=lu64_mod f 64 (by decide) (by decide)
 obtain⟨t0,ht1,ht2⟩:=lu64_mod t 64 (by decide) (by decide)
 have hs1':(IntKind.u64.wrap s).tmod 1000=(s1:Int):=hs1
 have hf1':(IntKind.u64.wrap f).tmod 64=(f0:Int):=hf1
 have ht1':(IntKind.u64.wrap t).tmod 64=(t0:Int):=ht1
 obtain⟨fN,hfN⟩:∃q,q=f0+1:=⟨_,rfl⟩
 obtain⟨tN,htN⟩:∃q,q=t0+1:=⟨_,rfl⟩
 have hfI:(1:Int)+(f0:Int)=(fN:Int):=by omega
 have htI:(1:Int)+(t0:Int)=(tN:Int):=by omega
 have hfm:fN≤64:=by omega
 have htm:tN≤64:=by omega
 have hkp:=keyN_in x hQ64
 have hkq:=keyN_in y hQ64
 obtain⟨p,hp⟩:∃p,p=keyN Q x:=⟨_,rfl⟩
 obtain⟨q,hq⟩:∃q,q=keyN Q y:=⟨_,rfl⟩
 rw[←hp]at hkp
 rw[←hq]at hkq
 have hFp:Fit 32 p:=hQ.le (Nat.le_of_lt hkp.2)
 have hFq:Fit 32 q:=hQ.le (Nat.le_of_lt hkq.2)
 obtain⟨a,ha⟩:∃a,a=G^p % P:=⟨_,rfl⟩
 obtain⟨cc,hc⟩:∃a,a=G^q % P:=⟨_,rfl⟩
 obtain⟨sh,hsh⟩:∃a,a=cc^p % P:=⟨_,rfl⟩
 have hmod:∀e,e % P<P:=fun e=>Nat.mod_lt _ (by omega)
 have hFa:Fit 32 a:=by rw[ha];exact hP.le (Nat.le_of_lt (hmod _))
 have hFc:Fit 32 cc:=by rw[hc];exact hP.le (Nat.le_of_lt (hmod _))
 have hFs:Fit 32 sh:=by rw[hsh];exact hP.le (Nat.le_of_lt (hmod _))
 have hma:memB P Q a=true:=by rw[ha];exact hgok.mem p
 have hmc:memB P Q cc=true:=by rw[hc];exact hgok.mem q
 have hsame:a^q % P=sh:=by rw[hsh,ha,hc,←Nat.pow_mod,←Nat.pow_mod,←Nat.pow_mul,←Nat.pow_mul,Nat.mul_comm]
 have hms:memB P Q sh=true:=by
  have:sh=G^(q*p) % P:=by rw[hsh,hc,←Nat.pow_mod,←Nat.pow_mul]
  rw[this]
  exact hgok.mem _
 obtain⟨X,hX⟩:∃X,X=bxS (keyB P Q sh (nameB s1 fN tN)) non12 (nameB s1 fN tN) b:=⟨_,rfl⟩
 have hXo:bxO (keyB P Q sh (nameB s1 fN tN)) non12 (nameB s1 fN tN) X=some b:=by rw[hX];exact bxO_rt _ _ _ _
 have Hp:=hide hp
 have Hq:=hide hq
 have Ha:=hide ha
 have Hc:=hide hc
 have Hsh:=hide hsh
 have Hma:=hide hma
 have Hmc:=hide hmc
 have Hsame:=hide hsame
 have Hms:=hide hms
 have HX:=hide hX
 have HXo:=hide hXo
 have Hbl:=hide (show b.length=n from hM.2.1)
 clear hnum hPe hQe hGe hM hs1 hf1 ht1 hfN htN hp hq ha hc hsh hmod hma hmc hsame hms hX hXo
 go_enter Try.func4,Try.ntmps4
 go_wp2_with fail
 refine(llives_any w).mono ?_
 rintro e w1 ⟨rfl,hU1⟩
 go_wp2_with fail
 refine(ggroup_any z r hr w1 Hnum.out).mono ?_
 rintro e w2 ⟨gr,rfl,hG,hU2⟩
 rw[←HPe.out,←HQe.out,←HGe.out]at hG
 have hE2:=hU1.trans hU2
 clear hU1 hU2
 go_wp2_with fail
 refine(lkn_any gr P Q G _ _ x hG hx64 hQ).mono ?_
 rw[←Hp.out]
 rintro e w3 ⟨A3,l3,c3,rfl,hV3,hU3⟩
 go_wp2_with fail
 refine(lkn_any gr P Q G _ _ y (hG.ext hU3) hy64 hQ).mono ?_
 rw[←Hq.out]
 rintro e w4 ⟨A4,l4,c4,rfl,hV4,hU4⟩
 obtain⟨W,hW⟩:∃W,W=(w4.alloc (.cells #[.slice A3 l3 c3] 33)).alloc (.cells #[.slice A4 l4 c4] 33):=⟨_,rfl⟩
 have h4W:Ext w4 W:=by rw[hW];exact((Upd.refl _ _).alloc _).alloc _
 have bp:Box W w4.heap.size 33 (.slice A3 l3 c3):=by rw[hW];exact(Box.new _ _ _).alloc _
 have bq:Box W (w4.heap.size+1) 33 (.slice A4 l4 c4):=by rw[hW];exact Box.new_at (by simp)
 have hVp:=hV3.ext (hU4.trans h4W)
 have hVq:=hV4.ext h4W
 have hGW:=hG.ext ((hU3.trans hU4).trans h4W)
 have hEW:=hE2.trans ((hU3.trans hU4).trans h4W)
 have qp:=bp.cell
 rw[hW]at qp
 go_wp2_with fail
 rw[←hW]
 clear qp hW h4W hV3 hV4 hU3 hU4 hG hE2
 refine(spub_any gr P Q G _ 32 W _ p hGW hVp hFp hQ hP hGf (by omega) hkp.1 hkp.2).mono ?_
 rw[←Ha.out]
 rintro e w5 ⟨A5,l5,c5,rfl,hV5,hU5⟩
 obtain⟨X1,hX1⟩:∃X,X=w5.alloc (.cells #[.slice A5 l5 c5] 33):=⟨_,rfl⟩
 have h5X:Ext w5 X1:=by rw[hX1];exact(Upd.refl _ _).alloc _
 have ba:Box X1 w5.heap.size 33 (.slice A5 l5 c5):=by rw[hX1];exact Box.new _ _ _
 have hWX:=hU5.trans h5X
 have hVa:=hV5.ext h5X
 have qq:=(bq.ext hWX).cell
 rw[hX1]at qq
 go_wp2_with fail
 rw[←hX1]
 clear qq hX1 h5X hV5 hU5
 refine(spub_any gr P Q G _ 32 X1 _ q (hGW.ext hWX) (hVq.ext hWX) hFq hQ hP hGf (by omega) hkq.1 hkq.2).mono ?_
 rw[←Hc.out]
 rintro e w6 ⟨A6,l6,c6,rfl,hV6,hU6⟩
 obtain⟨X2,hX2⟩:∃X,X=w6.alloc (.cells #[.slice A6 l6 c6] 33):=⟨_,rfl⟩
 have h6X:Ext w6 X2:=by rw[hX2];exact(Upd.refl _ _).alloc _
 have bc:Box X2 w6.heap.size 33 (.slice A6 l6 c6):=by rw[hX2];exact Box.new _ _ _
 have hX12:=hU6.trans h6X
 have hW2:=hWX.trans hX12
 have hVc:=hV6.ext h6X
 have qp:=(bp.ext hW2).cell
 have qc:=bc.cell
 rw[hX2]at qp qc
 go_wp2_with fail
 rw[←hX2]
 clear qp qc hX2 h6X hV6 hU6
 refine(lshared_any gr P Q G _ 32 X2 A3 A6 l3 c3 l6 c6 p cc (hGW.ext hW2) (hVp.ext hW2) hVc hFp hFc hP hQ hGf (by omega) (by omega) hkp.1 hkp.2 Hmc.out).mono ?_
 rw[←Hsh.out]
 rintro e w7 ⟨A7,l7,c7,rfl,hV7,hU7⟩
 obtain⟨X3,hX3⟩:∃X,X=w7.alloc (.cells #[.slice A7 l7 c7] 33):=⟨_,rfl⟩
 have h7X:Ext w7 X3:=by rw[hX3];exact(Upd.refl _ _).alloc _
 have bs:Box X3 w7.heap.size 33 (.slice A7 l7 c7):=by rw[hX3];exact Box.new _ _ _
 have hX23:=hU7.trans h7X
 have hX13:=hX12.trans hX23
 have hW3:=hW2.trans hX23
 have hVs:=hV7.ext h7X
 have qq:=(bq.ext hW3).cell
 have qa:=(ba.ext hX13).cell
 rw[hX3]at qq qa
 go_wp2_with fail
 rw[←hX3]
 clear qq qa hX3 h7X hV7 hU7
 refine(lshared_any gr P Q G _ 32 X3 A4 A5 l4 c4 l5 c5 q a (hGW.ext hW3) (hVq.ext hW3) (hVa.ext hX13) hFq hFa hP hQ hGf (by omega) (by omega) hkq.1 hkq.2 Hma.out).mono ?_
 rw[Hsame.out]
 rintro e w8 ⟨A8,l8,c8,rfl,hV8,hU8⟩
 obtain⟨X4,hX4⟩:∃X,X=w8.alloc (.cells #[.slice A8 l8 c8] 33):=⟨_,rfl⟩
 have h8X:Ext w8 X4:=by rw[hX4];exact(Upd.refl _ _).alloc _
 have bt:Box X4 w8.heap.size 33 (.slice A8 l8 c8):=by rw[hX4];exact Box.new _ _ _
 have hX34:=hU8.trans h8X
 have hVt:=hV8.ext h8X
 have qs:=(bs.ext hX34).cell
 have qt:=bt.cell
 rw[hX4]at qs qt
 go_wp2_with fail
 rw[←hX4]
 clear qs qt hX4 h8X hV8 hU8
 refine(cmp_any _ _ sh sh 32 X4 (hVs.ext hX34) hVt hFs hFs (by omega)).mono ?_
 rw[cmpI_aa]
 rintro e w9 ⟨rfl,hU9⟩
 have hW9:=(hW3.trans hX34).trans hU9
 have h39:=hX34.trans hU9
 have qs:=(bs.ext h39).cell
 go_wp2_with fail
 clear qs
 refine(lseal_any gr P Q G _ 32 w9 A7 A l7 c7 sh s1 fN tN n c b (hGW.ext hW9) (hVs.ext h39) hFs hP hQ (by omega) (by omega) Hms.out (by omega) (by omega) (by omega) (HM.out.ext (hEW.trans hW9)) (by omega)).mono ?_
 rw[←HX.out]
 rintro e w10 ⟨A10,c10,rfl,hl10,hO10,hU10⟩
 have hp10:=hide (Own.mpt hO10 hl10.symm)
 have h4t:=hU9.trans hU10
 have qt:=(bt.ext h4t).cell
 clear hl10 hO10
 go_wp2_with fail
 clear qt
 refine(lopen_any gr P Q G _ 32 w10 A8 A10 l8 c8 sh s1 fN tN n c10 X (hGW.ext (hW9.trans hU10)) (hVt.ext h4t) hFs hP hQ (by omega) (by omega) Hms.out (by omega) (by omega) (by omega) hp10.out (by omega)).mono ?_
 rw[HXo.out]
 rintro e w11 ⟨A11,c11,rfl, -,hO11,hU11⟩
 have hEf:=((hEW.trans hW9).trans hU10).trans hU11
 have hk1:=run_str (P:=Try.prog) (c:=c11) Try.under_bs Try.under8 Try.underS hO11.sl Hbl.out
 have hk2:=run_str (P:=Try.prog) (c:=c) Try.under_bs Try.under8 Try.underS (HM.out.1.ext hEf) Hbl.out
 obtain⟨ST,hST⟩:∃ST,ST=str b:=⟨_,rfl⟩
 rw[←hST]at hk1 hk2
 clear hST hO11 hp10
 go_wp2_with fail
 go_ret
 exact⟨rfl,hEf⟩
theorem lback_any (z:Int) (x y:Nat) (s f t:Int) (A:Option Addr) (n c:Nat) (b:List (BitVec 8)) (w:World) (hx64:x<18446744073709551616) (hy64:y<18446744073709551616) (hM:Pt.ok w ⟨A,n,c,b⟩):
 Calls Try.prog 4 #[.int .i64 z,.int .u64 (x:Nat),.int .u64 (y:Nat),.int .i64 s,.int .i64 f,.int .i64 t,.slice A n c] w fun e w'=>e=.returned (.bool true)∧Ext w w':=by
 by_cases hn:n≤200
 · obtain⟨r,hr,hnum⟩:=gnums_any z
   exact lback_good z r hr x y s f t A n c b w (fun w'=>hnum none 0 0 w') hx64 hy64 hM hn
 · exact lback_few z x y s f t A n c w (by omega)
end Go.Proofs.Ytbhhjfhepkbfgaa
