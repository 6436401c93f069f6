/- LetterSeals, walked. -/
import Derived.Test.YtdohmikoafkniaaGreatLsLetL
import Derived.Test.YtdohmikoafkniaaGreatLsLetR
namespace Go.Proofs.YtdohmikoafkniaaGreat
set_option linter.unusedSimpArgs false
set_option linter.unusedVariables false
open Go.RowKit
open Nt Sha Strm
attribute [local go_sem] steady steadyUpon Cls same_cell anyW
attribute [local irreducible] wpHead wpTree wpHeadR Sha.sum bxO bxS keyB str opnB
theorem lseals_few (z sh s f t:Int) (raw:Bool) (A:Option Addr) (n c:Nat) (w:World) (h:200<n):
 Calls Tryz.prog 4 #[.int .i64 z,.int .u64 sh,.bool raw,.int .i64 s,.int .i64 f,.int .i64 t,.slice A n c] w fun e w'=>e=.returned (.bool true)∧Ext w w':=by
 have n1I:(200:Int)<(n:Int):=by omega
 go_enter Tryz.func4,Tryz.ntmps4
 go_wp2_with fail
 refine(llives_any w).mono ?_
 rintro e w1 ⟨rfl,hU1⟩
 go_wp2_with fail
 refine(llives_any w1).mono ?_
 rintro e w2 ⟨rfl,hU2⟩
 have hE:=hU1.trans hU2
 go_wp2_with fail
 go_ret
 exact⟨rfl,hE⟩
theorem linB_nat {s:Int} (h:inB s=true):∃q:Nat,s=(q:Int)∧q≤1048576:=by
 unfold inB at h
 simp only[decide_eq_true_eq]at h
 exact⟨s.toNat,by omega,by omega⟩
def shN (raw:Bool) (P G x:Nat):Nat:=if raw=true then x else G^x % P
theorem lseal_bad (gr P Q G H:Nat) (w:World) (A0 D:Option Addr) (l0 c0 sh n d:Nat) (s f t:Int) (h:GrpV w gr P Q G H) (h0:NatV w (.agg #[.slice A0 l0 c0]) sh) (hFs:Fit 32 sh) (hP:Fit 32 P) (hQ:Fit 32 Q) (hno:[s,f,t].all inB=true→memB P Q sh=false):
 Calls Tryz.prog 25 #[.pointer (some ⟨gr,0,none⟩),.agg #[.slice A0 l0 c0],.int .i64 s,.int .i64 f,.int .i64 t,.slice D n d] w (RetBn w 1):=by
 cases ha:[s,f,t].all inB with
 | false=>exact lseal_num w _ A0 D l0 c0 n d s f t ha
 | true=>
   have hm:=hno ha
   simp only[List.all_cons,List.all_nil,Bool.and_true,Bool.and_eq_true]at ha
   obtain⟨q1,rfl,h1⟩:=linB_nat ha.1
   obtain⟨q2,rfl,h2⟩:=linB_nat ha.2.1
   obtain⟨q3,rfl,h3⟩:=linB_nat ha.2.2
   exact lseal_mem gr P Q G H 32 w A0 D l0 c0 sh q1 q2 q3 n d h h0 hFs hP hQ (by omega) (by omega) hm h1 h2 h3
theorem lopen_bad (gr P Q G H:Nat) (w:World) (A0 D:Option Addr) (l0 c0 sh n d:Nat) (s f t:Int) (h:GrpV w gr P Q G H) (h0:NatV w (.agg #[.slice A0 l0 c0]) sh) (hFs:Fit 32 sh) (hP:Fit 32 P) (hQ:Fit 32 Q) (hno:[s,f,t].all inB=true→memB P Q sh=false):
 Calls Tryz.prog 26 #[.pointer (some ⟨gr,0,none⟩),.agg #[.slice A0 l0 c0],.int .i64 s,.int .i64 f,.int .i64 t,.slice D n d] w (RetBn w 1):=by
 cases ha:[s,f,t].all inB with
 | false=>exact lopen_num w _ A0 D l0 c0 n d s f t ha
 | true=>
   have hm:=hno ha
   simp only[List.all_cons,List.all_nil,Bool.and_true,Bool.and_eq_true]at ha
   obtain⟨q1,rfl,h1⟩:=linB_nat ha.1
   obtain⟨q2,rfl,h2⟩:=linB_nat ha.2.1
   obtain⟨q3,rfl,h3⟩:=linB_nat ha.2.2
   exact lopen_mem gr P Q G H 32 w A0 D l0 c0 sh q1 q2 q3 n d h h0 hFs hP hQ (by omega) (by omega) hm h1 h2 h3
set_option maxRecDepth 100000 in
set_option maxHeartbeats 8000000 in
theorem lseals_no (z:Int) (r:Nat) (hr:r<3) (x:Nat) (raw:Bool) (s f t:Int) (A:Option Addr) (n c:Nat) (b:List (BitVec 8)) (w:World) (hnum:∀w',Calls Tryz.prog 52 #[.int .i64 z,.slice none 0 0] w' (RetNums w' r none 0 0))
 (hx64:x<18446744073709551616) (hM:Pt.ok w ⟨A,n,c,b⟩) (hn:n≤200) (hno:[s,f,t].all inB=true→memB (grP r) (grQ r) (shN raw (grP r) (grG r) x)=false):
 Calls Tryz.prog 4 #[.int .i64 z,.int .u64 (x:Nat),.bool raw,.int .i64 s,.int .i64 f,.int .i64 t,.slice A n c] w fun e w'=>e=.returned (.bool true)∧Ext w w':=by
 have Hnum:=hide hnum
 have hP:Fit 32 (grP r):=(fit_grP r).mono (by omega)
 have hQ:Fit 32 (grQ r):=(fit_grQ r).mono (by omega)
 have hGf:Fit 32 (grG r):=(fit_grG r).mono (by omega)
 have hHf:Fit 32 (grH r):=(fit_grH r).mono (by omega)
 obtain⟨P,hPe⟩:∃P,P=grP r:=⟨_,rfl⟩
 obtain⟨Q,hQe⟩:∃Q,Q=grQ r:=⟨_,rfl⟩
 obtain⟨G,hGe⟩:∃G,G=grG r:=⟨_,rfl⟩
 obtain⟨H,hHe⟩:∃H,H=grH r:=⟨_,rfl⟩
 have hgok:GOk P Q G:=by rw[hPe,hQe,hGe];exact gok r hr
 rw[←hPe]at hP
 rw[←hQe]at hQ
 rw[←hGe]at hGf
 rw[←hHe]at hHf
 have HPe:=hide hPe
 have HQe:=hide hQe
 have HGe:=hide hGe
 have HHe:=hide hHe
 have hP2:=hgok.two
 have hPb:blen P≤1024:=Nat.le_trans hP.blen (by omega)
 clear hnum hPe hQe hGe hHe
 rw[←HPe.out,←HQe.out,←HGe.out]at hno
 have Hno:=hide hno
 clear hno
 have HM:=hide hM
 have n1I:¬(200:Int)<(n:Int):=by omega
 have hFx:Fit 32 x:=(fit2 hx64).mono (by omega)
 have hFa:Fit 32 (shN raw P G x):=by unfold shN;split;exact hFx;exact hP.le (Nat.le_of_lt (Nat.mod_lt _ (by omega)))
 clear hM
 go_enter Tryz.func4,Tryz.ntmps4
 go_wp2_with fail
 refine(llives_any w).mono ?_
 rintro e w1 ⟨rfl,hU1⟩
 go_wp2_with fail
 refine(ggroup_any z r hr w1 Hnum.out).mono ?_
 rintro e w2 ⟨gr,rfl,hG,hU2⟩
 rw[←HPe.out,←HQe.out,←HGe.out,←HHe.out]at hG
 have hE2:=hU1.trans hU2
 clear hU1 hU2
 go_wp2_with fail
 refine(new_any x _ hx64).mono ?_
 rintro e w3 ⟨A3,l3,c3,rfl,hV3,hU3⟩
 go_upto_if 43 with fail
 refine name_w (fun W hW=>?_)
 have hUW:Ext w2 W:=by rw[hW];exact hU3.alloc _
 have b16w:Box W w3.heap.size 34 (.slice A3 l3 c3):=by rw[hW];exact Box.new _ _ _
 have hVw:NatV W (.agg #[.slice A3 l3 c3]) x:=by rw[hW];exact hV3.ext ((Upd.refl _ _).alloc _)
 have hGW:=hG.ext hUW
 have hEW:=hE2.trans hUW
 have hs3:=hU3.size
 have hs2:=hE2.size
 clear hW hU3 hV3
 go_cut [] (fun wx=>∃(AK:Option Addr) (lK cK:Nat),Box wx w3.heap.size 34 (.slice AK lK cK)∧NatV wx (.agg #[.slice AK lK cK]) (shN raw P G x)∧GrpV wx gr P Q G H∧Ext w wx)
 case first=>
  cases raw with
  | true=>
    go_wp2_with fail
    go_meet
    exact⟨_,_,_,b16w,hVw,hGW,hEW⟩
  | false=>
    have hWd:Ext W W.drew:=(Upd.refl _ _).drew
    have y0:=fun y:Wd (Ext W.drew)=>y.ok.cellv b16w.drew.cell
    go_wp2_with fail
    refine wp_region_plan (Ext _) 5 [(false,0),(false,1),(false,3),(true,2),(true,4)] (by kernel_rfl) (by kernel_rfl) (Upd.refl _ _) (fun hne=>?_)
    repeat (refine head_q rfl (fun K hK=>?_);have hK2:=hide hK;clear hK;go_simp;refine hK2.out _ ?_;clear hK2 K)
    refine head_l rfl ?_
    go_wp2_with (go_at_call 24;go_must (refine(gG_any gr P Q G _ _ (hGW.ext hWd)).mono ?_);rintro e v1 ⟨A4,l4,c4,rfl,hV4,hv1⟩)
    refine⟨Cls (Ext _),fun _ h=>h,⟨⟨_,hv1⟩,rfl⟩,?_⟩
    repeat (refine head_q rfl (fun K hK=>?_);have hK2:=hide hK;clear hK;go_simp;refine hK2.out _ ?_;clear hK2 K)
    refine head_l rfl ?_
    go_wp2_with (go_at_call 23;go_must (refine(gExp_any gr P Q G _ 32 _ _ _ G x 32 (hGW.ext (hWd.trans hv1)) hV4 (hVw.ext (hWd.trans hv1)) hGf hP hFx (by omega) (by omega)).mono ?_);rintro e v2 ⟨A5,l5,c5,rfl,hV5,hv2⟩;replace hv2:=hv1.trans hv2)
    refine⟨Cls (Ext _),fun _ h=>h,⟨⟨_,hv2⟩,rfl⟩,?_⟩
    repeat (refine head_q rfl (fun K hK=>?_);have hK2:=hide hK;clear hK;go_simp;refine hK2.out _ ?_;clear hK2 K)
    have hX:=hWd.trans hv2
    have b12x:=b16w.ext hX
    have z2:=b12x.cell
    have z3:=b12x.frozen
    have b12n:=b12x.set (.slice A5 l5 c5)
    have hVn:=hV5.far (v:=.slice A5 l5 c5) z2
    have hEn:Ext w (v2.setCell ⟨w3.heap.size,0,none⟩ (.slice A5 l5 c5)):=(hEW.trans hX).setCell (p:=⟨w3.heap.size,0,none⟩) (.inr (show w.heap.size≤w3.heap.size by omega)) _
    have hGn:GrpV (v2.setCell ⟨w3.heap.size,0,none⟩ (.slice A5 l5 c5)) gr P Q G H:=hG.ext ((hUW.trans hX).setCell (p:=⟨w3.heap.size,0,none⟩) (.inr (show w2.heap.size≤w3.heap.size by omega)) _)
    clear y0
    refine head_nil ?_
    try simp only[List.drop_succ_cons,List.drop_zero]
    go_wp2_with fail
    go_meet
    exact⟨_,_,_,b12n,hVn,hGn,hEn⟩
 case rest=>
  obtain⟨AK,lK,cK,b16,hVa,hGV,hEV⟩:=hcut
  obtain⟨aa,haa⟩:∃a,a=shN raw P G x:=⟨_,rfl⟩
  rw[←haa]at hVa hFa
  have Haa:=hide haa
  have hbl:=HM.out.2.1
  have Hbl:=hide hbl
  clear hG hE2 hUW b16w hVw hGW hEW hs3 hs2 haa hbl
  obtain⟨V,hV⟩:∃V,V=wc:=⟨_,rfl⟩
  subst hV
  go_wp2_with (at_builtin;refine wpList_apd by8 one8 Tryz.el8 [] b ([]++b) n rfl Hbl.out (by omega) (by unfold maxLen;omega) rfl rfl rfl rfl (rep_nil _ (Nat.le_refl _)) rfl Hbl.out (HM.out.1.ext (hEV.trans ((Upd.refl _ _).alloc _))) (by simp) ?_;intro A17 c17 w17 hO17 hU17 hin17;have hE17:=upd_new (w0:=V) hU17 ((Upd.refl _ _).alloc _) (fun q hq=>by simp[inA]at hq;omega);have q16:=(b16.ext hE17).cell)
  clear q16
  rw[List.nil_append]at hO17
  have hp17:=hide (Own.mpt hO17 Hbl.out)
  have hVb:=hVa.ext hE17
  have hGW:=hGV.ext hE17
  have hEW:=hEV.trans hE17
  have b16w:=b16.ext hE17
  clear hO17 hU17 hin17 hVa hGV hEV b16 hE17
  have Hno':Hid ([s,f,t].all inB=true→memB P Q aa=false):=hide (by rw[Haa.out];exact Hno.out)
  clear Hno
  refine(lseal_bad gr P Q G H _ AK A17 lK cK aa n c17 s f t hGW hVb hFa hP hQ Hno'.out).mono ?_
  rintro e w18 ⟨rfl,hU18⟩
  have q16:=(b16w.ext hU18).cell
  go_wp2_with fail
  clear q16
  refine(lopen_bad gr P Q G H _ AK A17 lK cK aa n c17 s f t (hGW.ext hU18) (hVb.ext hU18) hFa hP hQ Hno'.out).mono ?_
  rintro e w19 ⟨rfl,hU19⟩
  have hX19:=hU18.trans hU19
  have q16:=(b16w.ext hX19).cell
  go_wp2_with fail
  clear q16
  refine(lseal_nil _ AK A lK cK 1 1 1 n c (by omega) (by omega) (by omega)).mono ?_
  rintro e w20 ⟨rfl,hU20⟩
  have hX20:=hX19.trans hU20
  have hk1:=run_str (P:=Tryz.prog) (c:=c17) Tryz.under_bs Tryz.under8 Tryz.underS (hp17.out.1.ext hX20) Hbl.out
  have hk2:=run_str (P:=Tryz.prog) (c:=c) Tryz.under_bs Tryz.under8 Tryz.underS (HM.out.1.ext (hEW.trans hX20)) Hbl.out
  obtain⟨ST,hST⟩:∃ST,ST=str b:=⟨_,rfl⟩
  rw[←hST]at hk1 hk2
  clear hST
  have q16:=(b16w.ext hX20).cell
  go_wp2_with fail
  clear q16 hk1 hk2
  refine(gMember_any gr P Q G H 32 _ _ aa (hGW.ext hX20) (hVb.ext hX20) hFa hP hQ (by omega) (by omega)).mono ?_
  cases hme:memB P Q aa with
  | false=>
    rintro e w21 ⟨rfl,hU21⟩
    have hEf:=(hEW.trans hX20).trans hU21
    go_wp2_with fail
    go_ret
    exact⟨rfl,hEf⟩
  | true=>
    rintro e w21 ⟨rfl,hU21⟩
    have hEf:=(hEW.trans hX20).trans hU21
    have hfal:[s,f,t].all inB=false:=by
     cases h9:[s,f,t].all inB with
     | false=>rfl
     | true=>rw[Hno'.out h9]at hme;cases hme
    simp only[List.all_cons,List.all_nil,Bool.and_true]at hfal
    clear hme Hno'
    go_wp2_with fail
    refine(rIn_any _ s).mono ?_
    cases h1:inB s with
    | false=>
      rintro e w22 ⟨rfl,rfl⟩
      go_wp2_with fail
      go_ret
      exact⟨rfl,hEf⟩
    | true=>
      rintro e w22 ⟨rfl,rfl⟩
      go_wp2_with fail
      refine(rIn_any _ f).mono ?_
      cases h2:inB f with
      | false=>
        rintro e w22 ⟨rfl,rfl⟩
        go_wp2_with fail
        go_ret
        exact⟨rfl,hEf⟩
      | true=>
        rintro e w22 ⟨rfl,rfl⟩
        go_wp2_with fail
        refine(rIn_any _ t).mono ?_
        cases h3:inB t with
        | false=>
          rintro e w22 ⟨rfl,rfl⟩
          go_wp2_with fail
          go_ret
          exact⟨rfl,hEf⟩
        | true=>rw[h1,h2,h3]at hfal;cases hfal
def CutRg (V:World) (P Q G H a:Nat) (s24 s25:Value) (wx:World):Prop:=
 ∃g F0 p0 s0 F1 p1 s1 F2 p2 s2 F3 p3 s3 B l c,s24=.pointer (some ⟨g,0,none⟩)∧s25=.slice B l c∧Blk wx g 30 #[.slice F0 p0 s0,.slice F1 p1 s1,.slice F2 p2 s2,.slice F3 p3 s3]∧RefV wx (.slice F0 p0 s0) P∧RefV wx (.slice F1 p1 s1) Q∧RefV wx (.slice F2 p2 s2) G∧RefV wx (.slice F3 p3 s3) H∧RefV wx (.slice B l c) a∧Ext V wx
set_option maxRecDepth 100000 in
set_option maxHeartbeats 8000000 in
theorem lseals_yes (z:Int) (r:Nat) (hr:r<3) (x:Nat) (raw:Bool) (s f t:Nat) (A:Option Addr) (n c:Nat) (b:List (BitVec 8)) (w:World) (hnum:∀w',Calls Tryz.prog 52 #[.int .i64 z,.slice none 0 0] w' (RetNums w' r none 0 0))
 (hx64:x<18446744073709551616) (hM:Pt.ok w ⟨A,n,c,b⟩) (hn:n≤200) (hs:s≤1048576) (hf:f≤1048576) (ht:t≤1048576) (hme:memB (grP r) (grQ r) (shN raw (grP r) (grG r) x)=true):
 Calls Tryz.prog 4 #[.int .i64 z,.int .u64 (x:Nat),.bool raw,.int .i64 (s:Int),.int .i64 (f:Int),.int .i64 (t:Int),.slice A n c] w fun e w'=>e=.returned (.bool true)∧Ext w w':=by
 have Hnum:=hide hnum
 have hP:Fit 32 (grP r):=(fit_grP r).mono (by omega)
 have hQ:Fit 32 (grQ r):=(fit_grQ r).mono (by omega)
 have hGf:Fit 32 (grG r):=(fit_grG r).mono (by omega)
 have hHf:Fit 32 (grH r):=(fit_grH r).mono (by omega)
 obtain⟨P,hPe⟩:∃P,P=grP r:=⟨_,rfl⟩
 obtain⟨Q,hQe⟩:∃Q,Q=grQ r:=⟨_,rfl⟩
 obtain⟨G,hGe⟩:∃G,G=grG r:=⟨_,rfl⟩
 obtain⟨H,hHe⟩:∃H,H=grH r:=⟨_,rfl⟩
 have hgok:GOk P Q G:=by rw[hPe,hQe,hGe];exact gok r hr
 rw[←hPe]at hP
 rw[←hQe]at hQ
 rw[←hGe]at hGf
 rw[←hHe]at hHf
 have HPe:=hide hPe
 have HQe:=hide hQe
 have HGe:=hide hGe
 have HHe:=hide hHe
 have hP2:=hgok.two
 have hPb:blen P≤1024:=Nat.le_trans hP.blen (by omega)
 clear hnum hPe hQe hGe hHe
 rw[←HPe.out,←HQe.out,←HGe.out]at hme
 have Hme0:=hide hme
 have hi:∀{q:Nat},q≤1048576→inB (q:Int)=true:=fun {q} h=>by
   simp only[inB,decide_eq_true_eq]
   omega
 have Hi1:=hide (hi hs)
 have Hi2:=hide (hi hf)
 have Hi3:=hide (hi ht)
 clear hme hi
 have HM:=hide hM
 have n1I:¬(200:Int)<(n:Int):=by omega
 have hFx:Fit 32 x:=(fit2 hx64).mono (by omega)
 have hFa:Fit 32 (shN raw P G x):=by unfold shN;split;exact hFx;exact hP.le (Nat.le_of_lt (Nat.mod_lt _ (by omega)))
 clear hM
 go_enter Tryz.func4,Tryz.ntmps4
 go_wp2_with fail
 refine(llives_any w).mono ?_
 rintro e w1 ⟨rfl,hU1⟩
 go_wp2_with fail
 refine(ggroup_any z r hr w1 Hnum.out).mono ?_
 rintro e w2 ⟨gr,rfl,hG,hU2⟩
 rw[←HPe.out,←HQe.out,←HGe.out,←HHe.out]at hG
 have hE2:=hU1.trans hU2
 clear hU1 hU2
 go_wp2_with fail
 refine(new_any x _ hx64).mono ?_
 rintro e w3 ⟨A3,l3,c3,rfl,hV3,hU3⟩
 go_upto_if 43 with fail
 refine name_w (fun W hW=>?_)
 have hUW:Ext w2 W:=by rw[hW];exact hU3.alloc _
 have b16w:Box W w3.heap.size 34 (.slice A3 l3 c3):=by rw[hW];exact Box.new _ _ _
 have hVw:NatV W (.agg #[.slice A3 l3 c3]) x:=by rw[hW];exact hV3.ext ((Upd.refl _ _).alloc _)
 have hGW:=hG.ext hUW
 have hEW:=hE2.trans hUW
 have hs3:=hU3.size
 have hs2:=hE2.size
 clear hW hU3 hV3
 go_cut [] (fun wx=>∃(AK:Option Addr) (lK cK:Nat),Box wx w3.heap.size 34 (.slice AK lK cK)∧NatV wx (.agg #[.slice AK lK cK]) (shN raw P G x)∧GrpV wx gr P Q G H∧Ext w wx)
 case first=>
  cases raw with
  | true=>
    go_wp2_with fail
    go_meet
    exact⟨_,_,_,b16w,hVw,hGW,hEW⟩
  | false=>
    have hWd:Ext W W.drew:=(Upd.refl _ _).drew
    have y0:=fun y:Wd (Ext W.drew)=>y.ok.cellv b16w.drew.cell
    go_wp2_with fail
    refine wp_region_plan (Ext _) 5 [(false,0),(false,1),(false,3),(true,2),(true,4)] (by kernel_rfl) (by kernel_rfl) (Upd.refl _ _) (fun hne=>?_)
    repeat (refine head_q rfl (fun K hK=>?_);have hK2:=hide hK;clear hK;go_simp;refine hK2.out _ ?_;clear hK2 K)
    refine head_l rfl ?_
    go_wp2_with (go_at_call 24;go_must (refine(gG_any gr P Q G _ _ (hGW.ext hWd)).mono ?_);rintro e v1 ⟨A4,l4,c4,rfl,hV4,hv1⟩)
    refine⟨Cls (Ext _),fun _ h=>h,⟨⟨_,hv1⟩,rfl⟩,?_⟩
    repeat (refine head_q rfl (fun K hK=>?_);have hK2:=hide hK;clear hK;go_simp;refine hK2.out _ ?_;clear hK2 K)
    refine head_l rfl ?_
    go_wp2_with (go_at_call 23;go_must (refine(gExp_any gr P Q G _ 32 _ _ _ G x 32 (hGW.ext (hWd.trans hv1)) hV4 (hVw.ext (hWd.trans hv1)) hGf hP hFx (by omega) (by omega)).mono ?_);rintro e v2 ⟨A5,l5,c5,rfl,hV5,hv2⟩;replace hv2:=hv1.trans hv2)
    refine⟨Cls (Ext _),fun _ h=>h,⟨⟨_,hv2⟩,rfl⟩,?_⟩
    repeat (refine head_q rfl (fun K hK=>?_);have hK2:=hide hK;clear hK;go_simp;refine hK2.out _ ?_;clear hK2 K)
    have hX:=hWd.trans hv2
    have b12x:=b16w.ext hX
    have z2:=b12x.cell
    have z3:=b12x.frozen
    have b12n:=b12x.set (.slice A5 l5 c5)
    have hVn:=hV5.far (v:=.slice A5 l5 c5) z2
    have hEn:Ext w (v2.setCell ⟨w3.heap.size,0,none⟩ (.slice A5 l5 c5)):=(hEW.trans hX).setCell (p:=⟨w3.heap.size,0,none⟩) (.inr (show w.heap.size≤w3.heap.size by omega)) _
    have hGn:GrpV (v2.setCell ⟨w3.heap.size,0,none⟩ (.slice A5 l5 c5)) gr P Q G H:=hG.ext ((hUW.trans hX).setCell (p:=⟨w3.heap.size,0,none⟩) (.inr (show w2.heap.size≤w3.heap.size by omega)) _)
    clear y0
    refine head_nil ?_
    try simp only[List.drop_succ_cons,List.drop_zero]
    go_wp2_with fail
    go_meet
    exact⟨_,_,_,b12n,hVn,hGn,hEn⟩
 case rest=>
  obtain⟨AK,lK,cK,b16,hVa,hGV,hEV⟩:=hcut
  obtain⟨aa,haa⟩:∃a,a=shN raw P G x:=⟨_,rfl⟩
  rw[←haa]at hVa hFa
  have Haa:=hide haa
  have hbl:=HM.out.2.1
  have Hbl:=hide hbl
  clear hG hE2 hUW b16w hVw hGW hEW hs3 hs2 haa hbl
  obtain⟨V,hV⟩:∃V,V=wc:=⟨_,rfl⟩
  subst hV
  go_wp2_with (at_builtin;refine wpList_apd by8 one8 Tryz.el8 [] b ([]++b) n rfl Hbl.out (by omega) (by unfold maxLen;omega) rfl rfl rfl rfl (rep_nil _ (Nat.le_refl _)) rfl Hbl.out (HM.out.1.ext (hEV.trans ((Upd.refl _ _).alloc _))) (by simp) ?_;intro A17 c17 w17 hO17 hU17 hin17;have hE17:=upd_new (w0:=V) hU17 ((Upd.refl _ _).alloc _) (fun q hq=>by simp[inA]at hq;omega);have q16:=(b16.ext hE17).cell)
  clear q16
  rw[List.nil_append]at hO17
  have hp17:=hide (Own.mpt hO17 Hbl.out)
  have hVb:=hVa.ext hE17
  have hGW:=hGV.ext hE17
  have hEW:=hEV.trans hE17
  have b16w:=b16.ext hE17
  clear hO17 hU17 hin17 hVa hGV hEV b16 hE17
  have Hme:Hid (memB P Q aa=true):=hide (by rw[Haa.out];exact Hme0.out)
  obtain⟨N16,hN16⟩:∃q,q=n+16:=⟨_,rfl⟩
  obtain⟨X,hX⟩:∃q,q=bxS (keyB P Q aa (nameB s f t)) non12 (nameB s f t) b:=⟨_,rfl⟩
  obtain⟨R,hR⟩:∃q,q=opnB P Q aa s f t b:=⟨_,rfl⟩
  have hXl:X.length=N16:=by rw[hX,bxS_length,Hbl.out,hN16]
  have HX:=hide hX
  have HR:=hide hR
  have HN16:=hide hN16
  have HXl:=hide hXl
  obtain⟨ro,er⟩:=R
  clear Hme0 hX hR hN16 hXl
  refine(lseal_any gr P Q G H 32 _ AK A17 lK cK aa s f t n c17 b hGW hVb hFa hP hQ (by omega) (by omega) Hme.out hs hf ht hp17.out (by omega)).mono ?_
  rw[←HX.out,←HN16.out]
  rintro e w18 ⟨A18,c18,rfl, -,hO18,hU18⟩
  have hS18:=hide hO18.sl
  have q16:=(b16w.ext hU18).cell
  clear hO18
  go_wp2_with fail
  clear q16
  refine(lopen_all P Q G H _ gr 32 AK A17 lK cK aa s f t n c17 b (hGW.ext hU18) (hVb.ext hU18) hFa hP hQ (by omega) (by omega) Hme.out hs hf ht (hp17.out.ext hU18) (by omega)).mono ?_
  rw[←HR.out]
  rintro e w19 ⟨A19,n19,c19,rfl,hS19,hl19,hU19⟩
  have HS19:=hide hS19
  have Hl19:=hide hl19
  have hX19:=hU18.trans hU19
  have q16:=(b16w.ext hX19).cell
  clear hS19 hl19
  go_wp2_with fail
  clear q16
  refine(lseal_nil _ AK A lK cK 1 1 1 n c (by omega) (by omega) (by omega)).mono ?_
  rintro e w20 ⟨rfl,hU20⟩
  have hX20:=hX19.trans hU20
  have hk1:=run_str (P:=Tryz.prog) (c:=c17) Tryz.under_bs Tryz.under8 Tryz.underS (hp17.out.1.ext hX20) Hbl.out
  have hk2:=run_str (P:=Tryz.prog) (c:=c) Tryz.under_bs Tryz.under8 Tryz.underS (HM.out.1.ext (hEW.trans hX20)) Hbl.out
  obtain⟨ST,hST⟩:∃ST,ST=str b:=⟨_,rfl⟩
  rw[←hST]at hk1 hk2
  clear hST
  have q16:=(b16w.ext hX20).cell
  go_wp2_with fail
  clear q16 hk1 hk2
  refine(gMember_any gr P Q G H 32 _ _ aa (hGW.ext hX20) (hVb.ext hX20) hFa hP hQ (by omega) (by omega)).mono ?_
  rw[Hme.out]
  rintro e w21 ⟨rfl,hU21⟩
  go_wp2_with fail
  refine(rIn_any _ (s:Int)).mono ?_
  rw[Hi1.out]
  rintro e w22 ⟨rfl,rfl⟩
  go_wp2_with fail
  refine(rIn_any _ (f:Int)).mono ?_
  rw[Hi2.out]
  rintro e w22 ⟨rfl,rfl⟩
  go_wp2_with fail
  refine(rIn_any _ (t:Int)).mono ?_
  rw[Hi3.out]
  rintro e w22 ⟨rfl,rfl⟩
  have hXX:=hX20.trans hU21
  have b16x:=b16w.ext hXX
  have hGX:=hGW.ext hXX
  have hVX:=hVb.ext hXX
  have hEX:=hEW.trans hXX
  have HS18:=hide (hS18.out.ext ((hU19.trans hU20).trans hU21))
  have HS19x:=hide (HS19.out.ext (hU20.trans hU21))
  clear hS18 HS19 hXX hX20 hX19 hU18 hU19 hU20 hU21 b16w hGW hVb hEW hp17 Hi1 Hi2 Hi3
  go_wp2_with fail
  refine name_w (fun Y hY=>?_)
  subst hY
  go_cut [24,25] (fun s24 s25 wx=>CutRg Y P Q G H aa s24 s25 wx)
  case first=>
   have hYd:Ext Y Y.drew:=(Upd.refl _ _).drew
   have q16:=fun y:Wd (Ext Y.drew)=>y.ok.cellv (b16x.ext hYd).cell
   have hGd:=hGX.ext hYd
   have hVd:=hVX.ext hYd
   have h0E:Ext Y.drew Y.drew:=Upd.refl _ _
   refine wp_region_tree (Ext Y.drew) 6 (.q 0 (.q 2 (.two 1 4 (.two 3 4 (.l 4 (.l 5 .done)) (.l 3 (.l 5 .done))) (.l 1 (.l 3 (.l 5 .done)))))) (by kernel_rfl) (by kernel_rfl) (Upd.refl _ _) (fun hne=>?_)
   repeat (refine tree_q rfl (fun K hK=>?_);go_simp;refine hK _ ?_;clear hK K)
   refine tree_two rfl rfl ?_ ?_
   · skip
     go_wp2_with (go_at_call 10;go_must (refine(gref_any gr P Q G H 32 _ hGd hP hQ hGf hHf (by omega)).mono ?_);rintro e u1 ⟨vg,rfl,hR1,hu1⟩;obtain⟨F0,p0,s0,F1,p1,s1,F2,p2,s2,F3,p3,s3,rfl,r0,r1,r2,r3⟩:=hR1;have hx1:=Upd.trans h0E hu1)
     refine⟨_,fun _ h=>h,⟨⟨_,hx1⟩,rfl⟩,?_⟩
     repeat (refine tree_q rfl (fun K hK=>?_);go_simp;refine hK _ ?_;clear hK K)
     refine tree_two rfl rfl ?_ ?_
     · skip
       go_wp2_with (go_at_call 20;go_must (refine(gnum_any _ aa 32 _ (hVd.ext hu1) hFa (by omega)).mono ?_);rintro e u3 ⟨B3,m3,d3,rfl,hR3,hu3⟩;have hx3:=Upd.trans hx1 hu3)
       refine⟨_,fun _ h=>h,⟨⟨_,hx3⟩,rfl⟩,?_⟩
       repeat (refine tree_q rfl (fun K hK=>?_);go_simp;refine hK _ ?_;clear hK K)
       refine tree_l rfl ?_
       go_wp2_with fail
       have haE:=Upd.alloc hx3 (.cells #[.slice none 0 0,.slice none 0 0,.slice none 0 0,.slice none 0 0] 30)
       have haB:Blk (World.alloc u3 (.cells #[.slice none 0 0,.slice none 0 0,.slice none 0 0,.slice none 0 0] 30)) u3.heap.size 30 #[.slice none 0 0,.slice none 0 0,.slice none 0 0,.slice none 0 0]:=Blk.new u3 30 #[.slice none 0 0,.slice none 0 0,.slice none 0 0,.slice none 0 0]
       have haG:Y.drew.heap.size≤u3.heap.size:=Upd.size hx3
       have haX:Ext u3 (World.alloc u3 (.cells #[.slice none 0 0,.slice none 0 0,.slice none 0 0,.slice none 0 0] 30)):=(Upd.refl _ _).alloc _
       refine⟨_,fun _ h=>h,⟨⟨_,haE⟩,rfl⟩,?_⟩
       repeat (refine tree_q rfl (fun K hK=>?_);go_simp;refine hK _ ?_;clear hK K)
       have hB4:=Blk.new u3 30 #[.slice F0 p0 s0,.slice F1 p1 s1,.slice F2 p2 s2,.slice F3 p3 s3]
       have hE4:=Upd.alloc hx3 (.cells #[.slice F0 p0 s0,.slice F1 p1 s1,.slice F2 p2 s2,.slice F3 p3 s3] 30)
       have hX4:Ext u3 (World.alloc u3 (.cells #[.slice F0 p0 s0,.slice F1 p1 s1,.slice F2 p2 s2,.slice F3 p3 s3] 30)):=(Upd.refl _ _).alloc _
       refine tree_l rfl ?_
       go_wp2_with fail
       refine⟨_,fun _ h=>h,⟨⟨_,hE4⟩,rfl⟩,?_⟩
       repeat (refine tree_q rfl (fun K hK=>?_);go_simp;refine hK _ ?_;clear hK K)
       refine tree_done ?_
       try simp only[List.drop_succ_cons,List.drop_zero]
       go_wp2_with fail
       go_meet
       exact⟨_,F0,p0,s0,F1,p1,s1,F2,p2,s2,F3,p3,s3,B3,m3,d3,rfl,rfl,hB4,((r0.ext hu3).ext hX4),((r1.ext hu3).ext hX4),((r2.ext hu3).ext hX4),((r3.ext hu3).ext hX4),(hR3.ext hX4),hYd.trans hE4⟩
     · skip
       go_wp2_with fail
       have haE:=Upd.alloc hx1 (.cells #[.slice none 0 0,.slice none 0 0,.slice none 0 0,.slice none 0 0] 30)
       have haB:Blk (World.alloc u1 (.cells #[.slice none 0 0,.slice none 0 0,.slice none 0 0,.slice none 0 0] 30)) u1.heap.size 30 #[.slice none 0 0,.slice none 0 0,.slice none 0 0,.slice none 0 0]:=Blk.new u1 30 #[.slice none 0 0,.slice none 0 0,.slice none 0 0,.slice none 0 0]
       have haG:Y.drew.heap.size≤u1.heap.size:=Upd.size hx1
       have haX:Ext u1 (World.alloc u1 (.cells #[.slice none 0 0,.slice none 0 0,.slice none 0 0,.slice none 0 0] 30)):=(Upd.refl _ _).alloc _
       refine⟨_,fun _ h=>h,⟨⟨_,haE⟩,rfl⟩,?_⟩
       repeat (refine tree_q rfl (fun K hK=>?_);go_simp;refine hK _ ?_;clear hK K)
       refine tree_l rfl ?_
       go_wp2_with (go_at_call 20;go_must (refine(gnum_any _ aa 32 _ ((hVd.ext hu1).ext haX) hFa (by omega)).mono ?_);rintro e u3 ⟨B3,m3,d3,rfl,hR3,hu3⟩;have hx3:=Upd.trans haE hu3)
       refine⟨_,fun _ h=>h,⟨⟨_,hx3⟩,rfl⟩,?_⟩
       repeat (refine tree_q rfl (fun K hK=>?_);go_simp;refine hK _ ?_;clear hK K)
       have y0:=(haB.ext hu3).at 0 rfl
       have x0:=(haB.ext hu3).frozen 0
       have y1:=(haB.ext hu3).at 1 rfl
       have x1:=(haB.ext hu3).frozen 1
       have y2:=(haB.ext hu3).at 2 rfl
       have x2:=(haB.ext hu3).frozen 2
       have y3:=(haB.ext hu3).at 3 rfl
       have x3:=(haB.ext hu3).frozen 3
       have hB4:=blk4 (haB.ext hu3) (.slice F0 p0 s0) (.slice F1 p1 s1) (.slice F2 p2 s2) (.slice F3 p3 s3)
       have hE4:=ext4 hx3 haG (.slice F0 p0 s0) (.slice F1 p1 s1) (.slice F2 p2 s2) (.slice F3 p3 s3)
       refine tree_l rfl ?_
       go_wp2_with fail
       refine⟨_,fun _ h=>h,⟨⟨_,hE4⟩,rfl⟩,?_⟩
       repeat (refine tree_q rfl (fun K hK=>?_);go_simp;refine hK _ ?_;clear hK K)
       refine tree_done ?_
       try simp only[List.drop_succ_cons,List.drop_zero]
       go_wp2_with fail
       go_meet
       exact⟨_,F0,p0,s0,F1,p1,s1,F2,p2,s2,F3,p3,s3,B3,m3,d3,rfl,rfl,hB4,(ref4 (b0:=F0) (m0:=p0) (d0:=s0) (b1:=F1) (m1:=p1) (d1:=s1) (b2:=F2) (m2:=p2) (d2:=s2) (b3:=F3) (m3:=p3) (d3:=s3) ((r0.ext haX).ext hu3) (haB.ext hu3)),(ref4 (b0:=F0) (m0:=p0) (d0:=s0) (b1:=F1) (m1:=p1) (d1:=s1) (b2:=F2) (m2:=p2) (d2:=s2) (b3:=F3) (m3:=p3) (d3:=s3) ((r1.ext haX).ext hu3) (haB.ext hu3)),(ref4 (b0:=F0) (m0:=p0) (d0:=s0) (b1:=F1) (m1:=p1) (d1:=s1) (b2:=F2) (m2:=p2) (d2:=s2) (b3:=F3) (m3:=p3) (d3:=s3) ((r2.ext haX).ext hu3) (haB.ext hu3)),(ref4 (b0:=F0) (m0:=p0) (d0:=s0) (b1:=F1) (m1:=p1) (d1:=s1) (b2:=F2) (m2:=p2) (d2:=s2) (b3:=F3) (m3:=p3) (d3:=s3) ((r3.ext haX).ext hu3) (haB.ext hu3)),(ref4 (b0:=F0) (m0:=p0) (d0:=s0) (b1:=F1) (m1:=p1) (d1:=s1) (b2:=F2) (m2:=p2) (d2:=s2) (b3:=F3) (m3:=p3) (d3:=s3) hR3 (haB.ext hu3)),hYd.trans hE4⟩
   · skip
     go_wp2_with fail
     have haE:=Upd.alloc h0E (.cells #[.slice none 0 0,.slice none 0 0,.slice none 0 0,.slice none 0 0] 30)
     have haB:Blk (World.alloc Y.drew (.cells #[.slice none 0 0,.slice none 0 0,.slice none 0 0,.slice none 0 0] 30)) Y.heap.size 30 #[.slice none 0 0,.slice none 0 0,.slice none 0 0,.slice none 0 0]:=Blk.new Y.drew 30 #[.slice none 0 0,.slice none 0 0,.slice none 0 0,.slice none 0 0]
     have haG:Y.drew.heap.size≤Y.heap.size:=Nat.le_refl _
     have haX:Ext Y.drew (World.alloc Y.drew (.cells #[.slice none 0 0,.slice none 0 0,.slice none 0 0,.slice none 0 0] 30)):=(Upd.refl _ _).alloc _
     refine⟨_,fun _ h=>h,⟨⟨_,haE⟩,rfl⟩,?_⟩
     repeat (refine tree_q rfl (fun K hK=>?_);go_simp;refine hK _ ?_;clear hK K)
     refine tree_l rfl ?_
     go_wp2_with (go_at_call 10;go_must (refine(gref_any gr P Q G H 32 _ (hGd.ext haX) hP hQ hGf hHf (by omega)).mono ?_);rintro e u1 ⟨vg,rfl,hR1,hu1⟩;obtain⟨F0,p0,s0,F1,p1,s1,F2,p2,s2,F3,p3,s3,rfl,r0,r1,r2,r3⟩:=hR1;have hx1:=Upd.trans haE hu1)
     refine⟨_,fun _ h=>h,⟨⟨_,hx1⟩,rfl⟩,?_⟩
     repeat (refine tree_q rfl (fun K hK=>?_);go_simp;refine hK _ ?_;clear hK K)
     refine tree_l rfl ?_
     go_wp2_with (go_at_call 20;go_must (refine(gnum_any _ aa 32 _ ((hVd.ext haX).ext hu1) hFa (by omega)).mono ?_);rintro e u3 ⟨B3,m3,d3,rfl,hR3,hu3⟩;have hx3:=Upd.trans hx1 hu3)
     refine⟨_,fun _ h=>h,⟨⟨_,hx3⟩,rfl⟩,?_⟩
     repeat (refine tree_q rfl (fun K hK=>?_);go_simp;refine hK _ ?_;clear hK K)
     have y0:=((haB.ext hu1).ext hu3).at 0 rfl
     have x0:=((haB.ext hu1).ext hu3).frozen 0
     have y1:=((haB.ext hu1).ext hu3).at 1 rfl
     have x1:=((haB.ext hu1).ext hu3).frozen 1
     have y2:=((haB.ext hu1).ext hu3).at 2 rfl
     have x2:=((haB.ext hu1).ext hu3).frozen 2
     have y3:=((haB.ext hu1).ext hu3).at 3 rfl
     have x3:=((haB.ext hu1).ext hu3).frozen 3
     have hB4:=blk4 ((haB.ext hu1).ext hu3) (.slice F0 p0 s0) (.slice F1 p1 s1) (.slice F2 p2 s2) (.slice F3 p3 s3)
     have hE4:=ext4 hx3 haG (.slice F0 p0 s0) (.slice F1 p1 s1) (.slice F2 p2 s2) (.slice F3 p3 s3)
     refine tree_l rfl ?_
     go_wp2_with fail
     refine⟨_,fun _ h=>h,⟨⟨_,hE4⟩,rfl⟩,?_⟩
     repeat (refine tree_q rfl (fun K hK=>?_);go_simp;refine hK _ ?_;clear hK K)
     refine tree_done ?_
     try simp only[List.drop_succ_cons,List.drop_zero]
     go_wp2_with fail
     go_meet
     exact⟨_,F0,p0,s0,F1,p1,s1,F2,p2,s2,F3,p3,s3,B3,m3,d3,rfl,rfl,hB4,(ref4 (b0:=F0) (m0:=p0) (d0:=s0) (b1:=F1) (m1:=p1) (d1:=s1) (b2:=F2) (m2:=p2) (d2:=s2) (b3:=F3) (m3:=p3) (d3:=s3) (r0.ext hu3) ((haB.ext hu1).ext hu3)),(ref4 (b0:=F0) (m0:=p0) (d0:=s0) (b1:=F1) (m1:=p1) (d1:=s1) (b2:=F2) (m2:=p2) (d2:=s2) (b3:=F3) (m3:=p3) (d3:=s3) (r1.ext hu3) ((haB.ext hu1).ext hu3)),(ref4 (b0:=F0) (m0:=p0) (d0:=s0) (b1:=F1) (m1:=p1) (d1:=s1) (b2:=F2) (m2:=p2) (d2:=s2) (b3:=F3) (m3:=p3) (d3:=s3) (r2.ext hu3) ((haB.ext hu1).ext hu3)),(ref4 (b0:=F0) (m0:=p0) (d0:=s0) (b1:=F1) (m1:=p1) (d1:=s1) (b2:=F2) (m2:=p2) (d2:=s2) (b3:=F3) (m3:=p3) (d3:=s3) (r3.ext hu3) ((haB.ext hu1).ext hu3)),(ref4 (b0:=F0) (m0:=p0) (d0:=s0) (b1:=F1) (m1:=p1) (d1:=s1) (b2:=F2) (m2:=p2) (d2:=s2) (b3:=F3) (m3:=p3) (d3:=s3) hR3 ((haB.ext hu1).ext hu3)),hYd.trans hE4⟩
  case rest=>
   obtain⟨g24,F0,p0,s0,F1,p1,s1,F2,p2,s2,F3,p3,s3,B3,m3,d3,rfl,rfl,b24,r0,r1,r2,r3,hRn,hYZ⟩:=hcut
   obtain⟨Z,hZ⟩:∃Z,Z=wc:=⟨_,rfl⟩
   subst hZ
   have hRG:RGrpV Z (.agg #[.slice F0 p0 s0,.slice F1 p1 s1,.slice F2 p2 s2,.slice F3 p3 s3]) P Q G H:=⟨F0,p0,s0,F1,p1,s1,F2,p2,s2,F3,p3,s3,rfl,r0,r1,r2,r3⟩
   have hEZ:=hEX.trans hYZ
   have y0:=b24.at 0 rfl
   have y1:=b24.at 1 rfl
   have y2:=b24.at 2 rfl
   have y3:=b24.at 3 rfl
   clear r0 r1 r2 r3
   go_wp2_with fail
   clear y0 y1 y2 y3
   refine(lropen_all P Q G H Z _ _ aa s f t A n c b hRG hRn Hme.out hs hf ht (HM.out.ext hEZ) (by omega) hPb).mono ?_
   rw[←HR.out]
   rintro e w26 ⟨A26,n26,c26,rfl,hS26,hl26,hU26⟩
   have hRG':=hRG.ext hU26
   have hRn':=hRn.ext hU26
   have b24':=b24.ext hU26
   have hE26:=hEZ.trans hU26
   have HS18':=hide (HS18.out.ext (hYZ.trans hU26))
   have HS19':=hide (HS19x.out.ext (hYZ.trans hU26))
   have HS26:=hide hS26
   have Hl26:=hide hl26
   clear hS26 hl26 hRG hRn b24 hEZ HS18 HS19x
   go_wp2_with fail
   refine name_w (fun U hU=>?_)
   subst hU
   have hUd:Ext U U.drew:=(Upd.refl _ _).drew
   have hED:=hE26.trans hUd
   have y0:=fun y:Wd (Ext U.drew)=>y.ok.cellv ((b24'.ext hUd).at 0 rfl)
   have y1:=fun y:Wd (Ext U.drew)=>y.ok.cellv ((b24'.ext hUd).at 1 rfl)
   have y2:=fun y:Wd (Ext U.drew)=>y.ok.cellv ((b24'.ext hUd).at 2 rfl)
   have y3:=fun y:Wd (Ext U.drew)=>y.ok.cellv ((b24'.ext hUd).at 3 rfl)
   have htx:=str_cls (c:=c18) (HS18'.out.ext hUd) HXl.out
   obtain⟨SX,hSX⟩:∃S,S=str X:=⟨_,rfl⟩
   obtain⟨SR,hSR⟩:∃S,S=str ro:=⟨_,rfl⟩
   rw[←hSX]at htx
   have HSX:=hide hSX
   have HSR:=hide hSR
   clear hSX hSR
   refine wp_region_plan (Ext _) 27 [(false,0),(false,1),(false,2),(false,3),(false,4),(false,5),(false,6),(false,7),(false,8),(false,9),(false,10),(true,11),(false,12),(false,13),(false,14),(false,15),(false,16),(false,17),(false,18),(false,19),(false,20),(false,21),(false,22),(false,23),(false,24),(false,25),(false,26)] (by kernel_rfl) (by kernel_rfl) (Upd.refl _ _) (fun hne=>?_)
   repeat (refine head_q rfl (fun K hK=>?_);have hK2:=hide hK;clear hK;go_simp;refine hK2.out _ ?_;clear hK2 K)
   refine head_l rfl ?_
   go_wp2_with (go_at_call 29;go_must (refine(lrseal_any P Q G H _ _ _ aa s f t A n c b (hRG'.ext hUd) (hRn'.ext hUd) Hme.out hs hf ht (HM.out.ext hED) (by omega) hPb).mono ?_);rw[←HX.out,←HN16.out];rintro e v1 ⟨A30,c30,rfl, -,hS30,hv1⟩)
   refine⟨Cls (Ext _),cls_narrow hv1,⟨⟨_,Upd.refl _ _⟩,rfl⟩,?_⟩
   have ht3:=str_cls (c:=c30) hS30 HXl.out
   have hty:=str_cls (c:=c19) ((HS19'.out.ext hUd).ext hv1) Hl19.out
   have htz:=str_cls (c:=c26) ((HS26.out.ext hUd).ext hv1) Hl26.out
   rw[←HSX.out]at ht3
   rw[←HSR.out]at hty htz
   repeat (refine head_q rfl (fun K hK=>?_);have hK2:=hide hK;clear hK;go_simp;refine hK2.out _ ?_;clear hK2 K)
   refine head_nil ?_
   try simp only[List.drop_succ_cons,List.drop_zero]
   have hEf:=hED.trans hv1
   clear htx ht3 hty htz y0 y1 y2 y3
   go_wp2_with fail
   go_ret
   exact⟨rfl,hEf⟩
theorem lseals_any (z:Int) (x:Nat) (raw:Bool) (s f t:Int) (A:Option Addr) (n c:Nat) (b:List (BitVec 8)) (w:World) (hx64:x<18446744073709551616) (hM:Pt.ok w ⟨A,n,c,b⟩):
 Calls Tryz.prog 4 #[.int .i64 z,.int .u64 (x:Nat),.bool raw,.int .i64 s,.int .i64 f,.int .i64 t,.slice A n c] w fun e w'=>e=.returned (.bool true)∧Ext w w':=by
 by_cases hn:n≤200
 · obtain⟨r,hr,hnum⟩:=gnums_any z
   by_cases hy:[s,f,t].all inB=true∧memB (grP r) (grQ r) (shN raw (grP r) (grG r) x)=true
   · obtain⟨ha,hm⟩:=hy
     simp only[List.all_cons,List.all_nil,Bool.and_true,Bool.and_eq_true]at ha
     obtain⟨q1,rfl,h1⟩:=linB_nat ha.1
     obtain⟨q2,rfl,h2⟩:=linB_nat ha.2.1
     obtain⟨q3,rfl,h3⟩:=linB_nat ha.2.2
     exact lseals_yes z r hr x raw q1 q2 q3 A n c b w (fun w'=>hnum none 0 0 w') hx64 hM hn h1 h2 h3 hm
   · exact lseals_no z r hr x raw s f t A n c b w (fun w'=>hnum none 0 0 w') hx64 hM hn (fun ha=>by
       cases hm:memB (grP r) (grQ r) (shN raw (grP r) (grG r) x)with
       | false=>rfl
       | true=>exact absurd ⟨ha,hm⟩ hy)
 · exact lseals_few z _ s f t raw A n c w (by omega)
end Go.Proofs.YtdohmikoafkniaaGreat
