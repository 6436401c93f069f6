/- LetterShows, walked. -/
import Derived.Test.YtdohmikoafkniaaGreatLwLetP
set_option maxRecDepth 100000
set_option maxHeartbeats 8000000
namespace Go.Proofs.YtdohmikoafkniaaGreat
set_option linter.unusedSimpArgs false
set_option linter.unusedVariables false
open Go.RowKit
open Nt Sha
attribute [local go_sem] steady steadyUpon Cls same_cell anyW
attribute [local irreducible] wpHead wpTree wpHeadR Sha.sum chalOf ansN str
theorem blk1 {w:World} {g:Nat} {t:TypeId} {x0:Value} (hb:Blk w g t #[x0]) (v0:Value):Blk (w.setCell ⟨g,0,none⟩ v0) g t #[v0]:=hb.set 0 v0
theorem ext1 {w w':World} {g:Nat} (h:Ext w w') (hg:w.heap.size≤g) (v0:Value):Ext w (w'.setCell ⟨g,0,none⟩ v0):=h.setCell (p:=⟨g,0,none⟩) (.inr hg) v0
theorem nat1 {w:World} {g:Nat} {t:TypeId} {s:Value} {n:Nat} {a0 b0:Option Addr} {l0 c0 m0 d0:Nat} (h:NatV w s n) (hb:Blk w g t #[.slice a0 l0 c0]):NatV (w.setCell ⟨g,0,none⟩ (.slice b0 m0 d0)) s n:=h.far (hb.at 0 rfl)
theorem sl1 {w:World} {g:Nat} {t:TypeId} {A:Option Addr} {xs:List (BitVec 8)} {a0 b0:Option Addr} {l0 c0 m0 d0:Nat} (h:Sl by8 w A xs) (hb:Blk w g t #[.slice a0 l0 c0]):Sl by8 (w.setCell ⟨g,0,none⟩ (.slice b0 m0 d0)) A xs:=h.far (hb.at 0 rfl) (fun _ e=>by cases e)
def RetSw (w:World) (N z:Nat) (prf:List (BitVec 8)) (er:Int) (e:Ending) (w':World):Prop:=
 ∃A0 l0 c0 A c,e=.returned (.tuple #[.agg #[.slice A0 l0 c0],.slice A N c,.int .i64 er])∧NatV w' (.agg #[.slice A0 l0 c0]) z∧Sl by8 w' A prf∧prf.length=N∧N≤c∧c≤maxLen∧Ext w w'
def CutS3 (V:World) (N z:Nat) (prf:List (BitVec 8)) (er:Int) (s14 s15 s16:Value) (wx:World):Prop:=
 ∃g E0 m0 d0 AP cP,s14=.pointer (some ⟨g,0,none⟩)∧s15=.slice AP N cP∧s16=.int .i64 er∧Blk wx g 34 #[.slice E0 m0 d0]∧NatV wx (.agg #[.slice E0 m0 d0]) z∧Sl by8 wx AP prf∧prf.length=N∧N≤cP∧cP≤maxLen∧Ext V wx
def CutS2 (V:World) (z:Nat) (er:Int) (s17 s18:Value) (wx:World):Prop:=
 ∃g E0 m0 d0,s17=.pointer (some ⟨g,0,none⟩)∧s18=.int .i64 er∧Blk wx g 34 #[.slice E0 m0 d0]∧NatV wx (.agg #[.slice E0 m0 d0]) z∧Ext V wx
def CutSn (V:World) (s20 s21:Value) (wx:World):Prop:=s20=.slice none 0 0∧s21=.int .i64 1∧Ext V wx
section
variable (gr P Q G H : Nat) (w : World)
theorem lshow_er (A0 A1:Option Addr) (l0 c0 l1 c1 x o:Nat) (s:Int) (h:GrpV w gr P Q G H) (h0:NatV w (.agg #[.slice A0 l0 c0]) x) (h1:NatV w (.agg #[.slice A1 l1 c1]) o) (hFx:Fit 32 x) (hFo:Fit 32 o) (hP:Fit 32 P) (hQ:Fit 32 Q) (hGf:Fit 32 G) (hno:(0<x∧x<Q)∧memB P Q o=true→inB s=false):
 Calls Tryz.prog 45 #[.pointer (some ⟨gr,0,none⟩),.agg #[.slice A0 l0 c0],.agg #[.slice A1 l1 c1],.int .i64 s] w (RetSw w 0 0 [] 1):=by
 have hh:∀e w',RetShn w e w'→RetSw w 0 0 [] 1 e w':=fun e w' ⟨h1,h2⟩=>⟨none,0,0,none,0,h1,NatV.nil _,Sl.nil,rfl,Nat.le_refl _,Nat.zero_le _,h2⟩
 by_cases hk:(0<x∧x<Q)∧memB P Q o=true
 · exact(lshow_in gr P Q G H w A0 A1 l0 c0 l1 c1 x o s h h0 h1 hFx hFo hP hQ hGf hk.1.1 hk.1.2 hk.2 (hno hk)).mono hh
 · exact(lshow_no gr P Q G H w A0 A1 l0 c0 l1 c1 x o s h h0 h1 hFx hFo hP hQ hGf (fun hx=>by
     cases hm:memB P Q o with
     | false=>rfl
     | true=>exact absurd ⟨hx,hm⟩ hk)).mono hh
theorem lshow_ok (A0 A1:Option Addr) (l0 c0 l1 c1 x o s:Nat) (h:GrpV w gr P Q G H) (h0:NatV w (.agg #[.slice A0 l0 c0]) x) (h1:NatV w (.agg #[.slice A1 l1 c1]) o) (hFx:Fit 32 x) (hFo:Fit 32 o) (hP:Fit 32 P) (hQ:Fit 32 Q) (hGf:Fit 32 G) (hP2:2≤P) (hQ64:64<Q) (hx0:0<x) (hxQ:x<Q) (hmG:memB P Q G=true) (ho:memB P Q o=true) (hs:s≤1048576):
 Calls Tryz.prog 45 #[.pointer (some ⟨gr,0,none⟩),.agg #[.slice A0 l0 c0],.agg #[.slice A1 l1 c1],.int .i64 (s:Int)] w (RetSw w (2*byteSz Q) (o^x % P) (pvB P Q G o x (sideB s)) 0):=
 (lshow_any gr P Q G H w A0 A1 l0 c0 l1 c1 x o s h h0 h1 hFx hFo hP hQ hGf hP2 hQ64 hx0 hxQ hmG ho hs).mono fun e w' ⟨A0,l0,c0,A,c,h1,h2,h3,h4⟩=>⟨A0,l0,c0,A,c,h1,h2,h3.1,h3.2.1,h3.2.2.1,h3.2.2.2,h4⟩
end
def otN (raw:Bool) (P Q G y:Nat):Nat:=if raw=true then y else G^keyN Q y % P
structure ShwQ (w W:World) (gr P Q G H o g12 g13 g14 g17 N zs zt:Nat) (prf:List (BitVec 8)) (vg:Array Value) (EO E0 E1 AP:Option Addr) (mO dO m0 d0 m1 d1 cP:Nat):Prop where
 grp:GrpV W gr P Q G H
 vgb:Blk W g12 30 vg
 ref:RGrpV W (.agg vg) P Q G H
 b13:Box W g13 34 (.slice EO mO dO)
 v13:NatV W (.agg #[.slice EO mO dO]) o
 b14:Box W g14 34 (.slice E0 m0 d0)
 v14:NatV W (.agg #[.slice E0 m0 d0]) zs
 b17:Box W g17 34 (.slice E1 m1 d1)
 v17:NatV W (.agg #[.slice E1 m1 d1]) zt
 prf:Pt.ok W ⟨AP,N,cP,prf⟩
 ext:Ext w W
theorem ShwQ.up {w W W':World} {gr P Q G H o g12 g13 g14 g17 N zs zt:Nat} {prf:List (BitVec 8)} {vg:Array Value} {EO E0 E1 AP:Option Addr} {mO dO m0 d0 m1 d1 cP:Nat} (h:ShwQ w W gr P Q G H o g12 g13 g14 g17 N zs zt prf vg EO E0 E1 AP mO dO m0 d0 m1 d1 cP) (hu:Ext W W'):ShwQ w W' gr P Q G H o g12 g13 g14 g17 N zs zt prf vg EO E0 E1 AP mO dO m0 d0 m1 d1 cP:=
 ⟨h.grp.ext hu,h.vgb.ext hu,h.ref.ext hu,h.b13.ext hu,h.v13.ext hu,h.b14.ext hu,h.v14.ext hu,h.b17.ext hu,h.v17.ext hu,h.prf.ext hu,h.ext.trans hu⟩
def ShwC (P Q G o x:Nat) (s:Int) (N zs:Nat) (prf:List (BitVec 8)) (er:Int) (zt:Nat) (et:Int):Prop:=
 (er=1∧et=1∧zs=0∧zt=0∧N=0∧((0<x∧x<Q)→memB P Q o=false))∨(er=1∧et=0∧(0<x∧x<Q)∧memB P Q o=true∧inB s=false)∨
 (er=0∧et=0∧zs=o^x % P∧zt=o^x % P∧N=2*byteSz Q∧(0<x∧x<Q)∧memB P Q o=true∧∃q:Nat,s=(q:Int)∧q≤1048576∧prf=pvB P Q G o x (sideB q))
theorem lshws_core (P Q G H r:Nat) (z:Int) (hr:r<3) (hPe:P=grP r) (hQe:Q=grQ r) (hGe:G=grG r) (hHe:H=grH r) (x y:Nat) (raw:Bool) (s:Int) (w:World) (hnum:∀w',Calls Tryz.prog 52 #[.int .i64 z,.slice none 0 0] w' (RetNums w' r none 0 0))
 (hx64:x<18446744073709551616) (hy64:y<18446744073709551616) (N zs:Nat) (prf:List (BitVec 8)) (er:Int) (zt:Nat) (et:Int) (hcs:ShwC P Q G (otN raw P Q G y) x s N zs prf er zt et)
 (hshow:∀(gr:Nat) (A0 A1:Option Addr) (l0 c0 l1 c1:Nat) (w:World) (o:Nat),o=otN raw P Q G y→GrpV w gr P Q G H→NatV w (.agg #[.slice A0 l0 c0]) x→NatV w (.agg #[.slice A1 l1 c1]) o→Calls Tryz.prog 45 #[.pointer (some ⟨gr,0,none⟩),.agg #[.slice A0 l0 c0],.agg #[.slice A1 l1 c1],.int .i64 s] w (RetSw w N zs prf er))
 (hshared:∀(gr:Nat) (A0 A1:Option Addr) (l0 c0 l1 c1:Nat) (w:World) (o:Nat),o=otN raw P Q G y→GrpV w gr P Q G H→NatV w (.agg #[.slice A0 l0 c0]) x→NatV w (.agg #[.slice A1 l1 c1]) o→Calls Tryz.prog 46 #[.pointer (some ⟨gr,0,none⟩),.agg #[.slice A0 l0 c0],.agg #[.slice A1 l1 c1]] w (RetE w zt et)):
 Calls Tryz.prog 7 #[.int .i64 z,.int .u64 (x:Nat),.int .u64 (y:Nat),.bool raw,.int .i64 s] w fun e w'=>e=.returned (.bool true)∧Ext w w':=by
 have hP:Fit 32 P:=by rw[hPe];exact(fit_grP r).mono (by omega)
 have hQ:Fit 32 Q:=by rw[hQe];exact(fit_grQ r).mono (by omega)
 have hGf:Fit 32 G:=by rw[hGe];exact(fit_grG r).mono (by omega)
 have hHf:Fit 32 H:=by rw[hHe];exact(fit_grH r).mono (by omega)
 have hgok:GOk P Q G:=by rw[hPe,hQe,hGe];exact gok r hr
 have hz128:byteSz Q≤128:=by rw[hQe];exact szQ r
 have hmG:memB P Q G=true:=by rw[hPe,hQe,hGe];exact gMem r hr
 have Hnum:=hide hnum
 have HPe:=hide hPe
 have HQe:=hide hQe
 have HGe:=hide hGe
 have HHe:=hide hHe
 have HmG:=hide hmG
 have hP2:=hgok.two
 have hQ64:=hgok.sml
 have hPb:blen P≤1024:=Nat.le_trans hP.blen (by omega)
 have hQb:blen Q≤1024:=Nat.le_trans hQ.blen (by omega)
 have hGb:blen G≤1024:=Nat.le_trans hGf.blen (by omega)
 clear hnum hPe hQe hGe hHe hmG
 have Hcs0:=hide hcs
 clear hcs
 have hFx:Fit 32 x:=(fit2 hx64).mono (by omega)
 have hFy:Fit 32 y:=(fit2 hy64).mono (by omega)
 have hFo:Fit 32 (otN raw P Q G y):=by unfold otN;split;exact hFy;exact hP.le (Nat.le_of_lt (Nat.mod_lt _ (by omega)))
 have hky:=keyN_in y hQ64
 have hFk:Fit 32 (keyN Q y):=hQ.le (Nat.le_of_lt hky.2)
 have Hshow:=hide hshow
 have Hshared:=hide hshared
 clear hshow hshared
 go_enter Tryz.func7,Tryz.ntmps7
 go_wp2_with fail
 refine(llives_any w).mono ?_
 rintro e w1 ⟨rfl,hU1⟩
 go_wp2_with fail
 refine(ggroup_any z r hr w1 Hnum.out).mono ?_
 rintro e w2 ⟨gr,rfl,hG,hU2⟩
 rw[←HPe.out,←HQe.out,←HGe.out,←HHe.out]at hG
 have hE2:=hU1.trans hU2
 clear hU1 hU2
 go_wp2_with fail
 refine(gref_any gr P Q G H 32 _ hG hP hQ hGf hHf (by omega)).mono ?_
 rintro e w3 ⟨vg,rfl,hR,hU3⟩
 have hR0:=hR
 obtain⟨B1,m1,d1,B2,m2,d2,B3,m3,d3,B4,m4,d4,rfl, -⟩:=hR0
 go_wp2_with fail
 refine name_c (fun W hW=>?_)
 have hU3W:Ext w3 W:=by rw[hW];exact uR_.alloc _
 have b12:Blk W w3.heap.size 30 #[.slice B1 m1 d1,.slice B2 m2 d2,.slice B3 m3 d3,.slice B4 m4 d4]:=by rw[hW];exact Blk.new _ _ _
 have hGW:=hG.ext (hU3.trans hU3W)
 have hRW:=hR.ext hU3W
 have hEW:=hE2.trans (hU3.trans hU3W)
 have hsz:=(hE2.trans hU3).size
 have hsz':=hU3W.size
 clear hW hU3 hU3W hG hR hE2
 refine(new_any y _ hy64).mono ?_
 rintro e w4 ⟨A4,l4,c4,rfl,hV4,hU4⟩
 go_upto_if 36 with fail
 refine name_w (fun V hV=>?_)
 have hUV:Ext W V:=by rw[hV];exact hU4.alloc _
 have b13:Box V w4.heap.size 34 (.slice A4 l4 c4):=by rw[hV];exact Box.new _ _ _
 have hV13:NatV V (.agg #[.slice A4 l4 c4]) y:=by rw[hV];exact hV4.ext (uR_.alloc _)
 have hGV:=hGW.ext hUV
 have hs4:=hU4.size
 obtain⟨g13,hg13⟩:∃g,g=w4.heap.size:=⟨_,rfl⟩
 rw[←hg13]at b13 hs4
 rw[←hg13]
 clear hV hU4 hV4 hg13
 go_cut [] (fun wx=>∃(AO:Option Addr) (lO cO:Nat),Box wx g13 34 (.slice AO lO cO)∧NatV wx (.agg #[.slice AO lO cO]) (otN raw P Q G y)∧Ext W wx)
 case first=>
  cases raw with
  | true=>
    go_wp2_with fail
    go_meet
    exact⟨_,_,_,b13,hV13,hUV⟩
  | false=>
    go_wp2_with fail
    refine(gG_any gr P Q G H _ hGV).mono ?_
    rintro e v1 ⟨A5,l5,c5,rfl,hV5,hv1⟩
    go_wp2_with fail
    refine(lkn_any gr P Q G H _ y (hGV.ext hv1) hy64 hQ).mono ?_
    rintro e v2 ⟨A6,l6,c6,rfl,hV6,hv2⟩
    go_wp2_with fail
    refine(gExp_any gr P Q G H 32 _ _ _ G (keyN Q y) 32 (hGV.ext (hv1.trans hv2)) (hV5.ext hv2) hV6 hGf hP hFk (by omega) (by omega)).mono ?_
    rintro e v3 ⟨A7,l7,c7,rfl,hV7,hv3⟩
    have hX:=(hv1.trans hv2).trans hv3
    have b13x:=b13.ext hX
    have z2:=b13x.cell
    have z3:=b13x.frozen
    have b13n:=b13x.set (.slice A7 l7 c7)
    have hVn:=hV7.far (v:=.slice A7 l7 c7) z2
    have hEn:=(hUV.trans hX).setCell (p:=⟨g13,0,none⟩) (.inr hs4) (.slice A7 l7 c7)
    go_wp2_with fail
    go_meet
    exact⟨_,_,_,b13n,hVn,hEn⟩
 case rest=>
  obtain⟨EO,mO,dO,k13,n13,hWX⟩:=hcut
  obtain⟨o,ho⟩:∃o,o=otN raw P Q G y:=⟨_,rfl⟩
  rw[←ho]at n13 hFo
  have Ho:=hide ho
  clear ho b13 hV13 hGV hUV
  obtain⟨X,hX⟩:∃X,X=wc:=⟨_,rfl⟩
  subst hX
  have hGX:=hGW.ext hWX
  have b12x:=b12.ext hWX
  have hRX:=hRW.ext hWX
  have hEX:=hEW.trans hWX
  clear hGW b12 hRW hEW hWX
  go_wp2_with fail
  go_cut [14,15,16] (fun s14 s15 s16 wx=>CutS3 X N zs prf er s14 s15 s16 wx)
  case first=>
   have hXd:Ext X X.drew:=uR_.drew
   have q13:=fun y:Wd (Ext X.drew)=>y.ok.cellv (k13.ext hXd).cell
   have hGd:=hGX.ext hXd
   have hod:=n13.ext hXd
   have h0E:Ext X.drew X.drew:=uR_
   refine wp_region_tree (Ext X.drew) 13 (.q 0 (.q 1 (.q 3 (.q 4 (.two 2 10 (.two 5 10 (.q 6 (.q 7 (.q 8 (.q 9 (.l 10 (.l 11 (.q 12 .done))))))) (.l 5 (.q 6 (.q 7 (.q 8 (.q 9 (.l 11 (.q 12 .done)))))))) (.l 2 (.l 5 (.q 6 (.q 7 (.q 8 (.q 9 (.l 11 (.q 12 .done))))))))))))) (by kernel_rfl) (by kernel_rfl) (uR_) (fun hne=>?_)
   repeat (refine tree_q rfl (fun K hK=>?_);go_simp;refine hK _ ?_;clear hK K)
   refine tree_two rfl rfl ?_ ?_
   · skip
     go_wp2_with (go_at_call 13;go_must (refine(new_any x _ hx64).mono ?_);rintro e u2 ⟨A7,l7,c7,rfl,hV7,hu2⟩;have hx2:=Upd.trans h0E hu2)
     refine⟨_,fun _ h=>h,⟨⟨_,hx2⟩,rfl⟩,?_⟩
     repeat (refine tree_q rfl (fun K hK=>?_);go_simp;refine hK _ ?_;clear hK K)
     refine tree_two rfl rfl ?_ ?_
     · skip
       go_wp2_with (go_at_call 45;go_must (refine(Hshow.out gr _ _ _ _ _ _ _ o Ho.out (hGd.ext hu2) hV7 (hod.ext hu2)).mono ?_);rintro e u5 ⟨E0,i0,j0,AP,cP,rfl,k0,hpS,hpl,hpc,hpm,hu5⟩;have hx5:=Upd.trans hx2 hu5)
       refine⟨_,fun _ h=>h,⟨⟨_,hx5⟩,rfl⟩,?_⟩
       repeat (refine tree_q rfl (fun K hK=>?_);go_simp;refine hK _ ?_;clear hK K)
       refine tree_l rfl ?_
       go_wp2_with fail
       have haE:=Upd.alloc hx5 (.cells #[.slice none 0 0] 34)
       have haB:Blk (World.alloc u5 (.cells #[.slice none 0 0] 34)) u5.heap.size 34 #[.slice none 0 0]:=Blk.new u5 34 #[.slice none 0 0]
       have haG:X.drew.heap.size≤u5.heap.size:=Upd.size hx5
       have haX:Ext u5 (World.alloc u5 (.cells #[.slice none 0 0] 34)):=uR_.alloc _
       refine⟨_,fun _ h=>h,⟨⟨_,haE⟩,rfl⟩,?_⟩
       repeat (refine tree_q rfl (fun K hK=>?_);go_simp;refine hK _ ?_;clear hK K)
       have hB4:=Blk.new u5 34 #[.slice E0 i0 j0]
       have hE4:=Upd.alloc hx5 (.cells #[.slice E0 i0 j0] 34)
       have hX4:Ext u5 (World.alloc u5 (.cells #[.slice E0 i0 j0] 34)):=uR_.alloc _
       refine tree_l rfl ?_
       go_wp2_with fail
       refine⟨_,fun _ h=>h,⟨⟨_,hE4⟩,rfl⟩,?_⟩
       repeat (refine tree_q rfl (fun K hK=>?_);go_simp;refine hK _ ?_;clear hK K)
       refine tree_done ?_
       try simp only[dS_,dZ_]
       go_wp2_with fail
       go_meet
       exact⟨_,E0,i0,j0,AP,cP,rfl,rfl,rfl,hB4,(k0.ext hX4),(hpS.ext hX4),hpl,hpc,hpm,hXd.trans hE4⟩
     · skip
       go_wp2_with fail
       have haE:=Upd.alloc hx2 (.cells #[.slice none 0 0] 34)
       have haB:Blk (World.alloc u2 (.cells #[.slice none 0 0] 34)) u2.heap.size 34 #[.slice none 0 0]:=Blk.new u2 34 #[.slice none 0 0]
       have haG:X.drew.heap.size≤u2.heap.size:=Upd.size hx2
       have haX:Ext u2 (World.alloc u2 (.cells #[.slice none 0 0] 34)):=uR_.alloc _
       refine⟨_,fun _ h=>h,⟨⟨_,haE⟩,rfl⟩,?_⟩
       repeat (refine tree_q rfl (fun K hK=>?_);go_simp;refine hK _ ?_;clear hK K)
       refine tree_l rfl ?_
       go_wp2_with (go_at_call 45;go_must (refine(Hshow.out gr _ _ _ _ _ _ _ o Ho.out ((hGd.ext hu2).ext haX) (hV7.ext haX) ((hod.ext hu2).ext haX)).mono ?_);rintro e u5 ⟨E0,i0,j0,AP,cP,rfl,k0,hpS,hpl,hpc,hpm,hu5⟩;have hx5:=Upd.trans haE hu5)
       refine⟨_,fun _ h=>h,⟨⟨_,hx5⟩,rfl⟩,?_⟩
       repeat (refine tree_q rfl (fun K hK=>?_);go_simp;refine hK _ ?_;clear hK K)
       have y0:=(haB.ext hu5).at 0 rfl
       have x0:=(haB.ext hu5).frozen 0
       have hB4:=blk1 (haB.ext hu5) (.slice E0 i0 j0)
       have hE4:=ext1 hx5 haG (.slice E0 i0 j0)
       refine tree_l rfl ?_
       go_wp2_with fail
       refine⟨_,fun _ h=>h,⟨⟨_,hE4⟩,rfl⟩,?_⟩
       repeat (refine tree_q rfl (fun K hK=>?_);go_simp;refine hK _ ?_;clear hK K)
       refine tree_done ?_
       try simp only[dS_,dZ_]
       go_wp2_with fail
       go_meet
       exact⟨_,E0,i0,j0,AP,cP,rfl,rfl,rfl,hB4,(nat1 (b0:=E0) (m0:=i0) (d0:=j0) k0 (haB.ext hu5)),(sl1 (b0:=E0) (m0:=i0) (d0:=j0) hpS (haB.ext hu5)),hpl,hpc,hpm,hXd.trans hE4⟩
   · skip
     go_wp2_with fail
     have haE:=Upd.alloc h0E (.cells #[.slice none 0 0] 34)
     have haB:Blk (World.alloc X.drew (.cells #[.slice none 0 0] 34)) X.heap.size 34 #[.slice none 0 0]:=Blk.new X.drew 34 #[.slice none 0 0]
     have haG:X.drew.heap.size≤X.heap.size:=Nat.le_refl _
     have haX:Ext X.drew (World.alloc X.drew (.cells #[.slice none 0 0] 34)):=uR_.alloc _
     refine⟨_,fun _ h=>h,⟨⟨_,haE⟩,rfl⟩,?_⟩
     repeat (refine tree_q rfl (fun K hK=>?_);go_simp;refine hK _ ?_;clear hK K)
     refine tree_l rfl ?_
     go_wp2_with (go_at_call 13;go_must (refine(new_any x _ hx64).mono ?_);rintro e u2 ⟨A7,l7,c7,rfl,hV7,hu2⟩;have hx2:=Upd.trans haE hu2)
     refine⟨_,fun _ h=>h,⟨⟨_,hx2⟩,rfl⟩,?_⟩
     repeat (refine tree_q rfl (fun K hK=>?_);go_simp;refine hK _ ?_;clear hK K)
     refine tree_l rfl ?_
     go_wp2_with (go_at_call 45;go_must (refine(Hshow.out gr _ _ _ _ _ _ _ o Ho.out ((hGd.ext haX).ext hu2) hV7 ((hod.ext haX).ext hu2)).mono ?_);rintro e u5 ⟨E0,i0,j0,AP,cP,rfl,k0,hpS,hpl,hpc,hpm,hu5⟩;have hx5:=Upd.trans hx2 hu5)
     refine⟨_,fun _ h=>h,⟨⟨_,hx5⟩,rfl⟩,?_⟩
     repeat (refine tree_q rfl (fun K hK=>?_);go_simp;refine hK _ ?_;clear hK K)
     have y0:=((haB.ext hu2).ext hu5).at 0 rfl
     have x0:=((haB.ext hu2).ext hu5).frozen 0
     have hB4:=blk1 ((haB.ext hu2).ext hu5) (.slice E0 i0 j0)
     have hE4:=ext1 hx5 haG (.slice E0 i0 j0)
     refine tree_l rfl ?_
     go_wp2_with fail
     refine⟨_,fun _ h=>h,⟨⟨_,hE4⟩,rfl⟩,?_⟩
     repeat (refine tree_q rfl (fun K hK=>?_);go_simp;refine hK _ ?_;clear hK K)
     refine tree_done ?_
     try simp only[dS_,dZ_]
     go_wp2_with fail
     go_meet
     exact⟨_,E0,i0,j0,AP,cP,rfl,rfl,rfl,hB4,(nat1 (b0:=E0) (m0:=i0) (d0:=j0) k0 ((haB.ext hu2).ext hu5)),(sl1 (b0:=E0) (m0:=i0) (d0:=j0) hpS ((haB.ext hu2).ext hu5)),hpl,hpc,hpm,hXd.trans hE4⟩
  case rest=>
   obtain⟨g14,E0,i0,j0,AP,cP,rfl,rfl,rfl,b14,k14,hpS,hpl,hpc,hpm,hXY⟩:=hcut
   have k13y:=k13.ext hXY
   have n13y:=n13.ext hXY
   have hGY:=hGX.ext hXY
   have b12y:=b12x.ext hXY
   have hRY:=hRX.ext hXY
   have hEY:=hEX.trans hXY
   clear k13 n13 hGX b12x hRX hEX hXY
   obtain⟨Y,hY⟩:∃Y,Y=wc:=⟨_,rfl⟩
   subst hY
   go_wp2_with fail
   go_cut [17,18] (fun s17 s18 wx=>CutS2 Y zt et s17 s18 wx)
   case first=>
    have hYd:Ext Y Y.drew:=uR_.drew
    have q13:=fun y:Wd (Ext Y.drew)=>y.ok.cellv (k13y.ext hYd).cell
    have hGd:=hGY.ext hYd
    have hod:=n13y.ext hYd
    have h0E:Ext Y.drew Y.drew:=uR_
    refine wp_region_tree (Ext Y.drew) 10 (.q 0 (.q 1 (.q 3 (.two 2 8 (.two 4 8 (.q 5 (.q 6 (.q 7 (.l 8 (.l 9 .done))))) (.l 4 (.q 5 (.q 6 (.q 7 (.l 9 .done)))))) (.l 2 (.l 4 (.q 5 (.q 6 (.q 7 (.l 9 .done)))))))))) (by kernel_rfl) (by kernel_rfl) (uR_) (fun hne=>?_)
    repeat (refine tree_q rfl (fun K hK=>?_);go_simp;refine hK _ ?_;clear hK K)
    refine tree_two rfl rfl ?_ ?_
    · skip
      go_wp2_with (go_at_call 13;go_must (refine(new_any x _ hx64).mono ?_);rintro e u2 ⟨A7,l7,c7,rfl,hV7,hu2⟩;have hx2:=Upd.trans h0E hu2)
      refine⟨_,fun _ h=>h,⟨⟨_,hx2⟩,rfl⟩,?_⟩
      repeat (refine tree_q rfl (fun K hK=>?_);go_simp;refine hK _ ?_;clear hK K)
      refine tree_two rfl rfl ?_ ?_
      · skip
        go_wp2_with (go_at_call 46;go_must (refine(Hshared.out gr _ _ _ _ _ _ _ o Ho.out (hGd.ext hu2) hV7 (hod.ext hu2)).mono ?_);rintro e u4 ⟨F0,p0,s0,rfl,k0,hu4⟩;have hx4:=Upd.trans hx2 hu4)
        refine⟨_,fun _ h=>h,⟨⟨_,hx4⟩,rfl⟩,?_⟩
        repeat (refine tree_q rfl (fun K hK=>?_);go_simp;refine hK _ ?_;clear hK K)
        refine tree_l rfl ?_
        go_wp2_with fail
        have haE:=Upd.alloc hx4 (.cells #[.slice none 0 0] 34)
        have haB:Blk (World.alloc u4 (.cells #[.slice none 0 0] 34)) u4.heap.size 34 #[.slice none 0 0]:=Blk.new u4 34 #[.slice none 0 0]
        have haG:Y.drew.heap.size≤u4.heap.size:=Upd.size hx4
        have haX:Ext u4 (World.alloc u4 (.cells #[.slice none 0 0] 34)):=uR_.alloc _
        refine⟨_,fun _ h=>h,⟨⟨_,haE⟩,rfl⟩,?_⟩
        repeat (refine tree_q rfl (fun K hK=>?_);go_simp;refine hK _ ?_;clear hK K)
        have hB4:=Blk.new u4 34 #[.slice F0 p0 s0]
        have hE4:=Upd.alloc hx4 (.cells #[.slice F0 p0 s0] 34)
        have hX4:Ext u4 (World.alloc u4 (.cells #[.slice F0 p0 s0] 34)):=uR_.alloc _
        refine tree_l rfl ?_
        go_wp2_with fail
        refine⟨_,fun _ h=>h,⟨⟨_,hE4⟩,rfl⟩,?_⟩
        repeat (refine tree_q rfl (fun K hK=>?_);go_simp;refine hK _ ?_;clear hK K)
        refine tree_done ?_
        try simp only[dS_,dZ_]
        go_wp2_with fail
        go_meet
        exact⟨_,F0,p0,s0,rfl,rfl,hB4,(k0.ext hX4),hYd.trans hE4⟩
      · skip
        go_wp2_with fail
        have haE:=Upd.alloc hx2 (.cells #[.slice none 0 0] 34)
        have haB:Blk (World.alloc u2 (.cells #[.slice none 0 0] 34)) u2.heap.size 34 #[.slice none 0 0]:=Blk.new u2 34 #[.slice none 0 0]
        have haG:Y.drew.heap.size≤u2.heap.size:=Upd.size hx2
        have haX:Ext u2 (World.alloc u2 (.cells #[.slice none 0 0] 34)):=uR_.alloc _
        refine⟨_,fun _ h=>h,⟨⟨_,haE⟩,rfl⟩,?_⟩
        repeat (refine tree_q rfl (fun K hK=>?_);go_simp;refine hK _ ?_;clear hK K)
        refine tree_l rfl ?_
        go_wp2_with (go_at_call 46;go_must (refine(Hshared.out gr _ _ _ _ _ _ _ o Ho.out ((hGd.ext hu2).ext haX) (hV7.ext haX) ((hod.ext hu2).ext haX)).mono ?_);rintro e u4 ⟨F0,p0,s0,rfl,k0,hu4⟩;have hx4:=Upd.trans haE hu4)
        refine⟨_,fun _ h=>h,⟨⟨_,hx4⟩,rfl⟩,?_⟩
        repeat (refine tree_q rfl (fun K hK=>?_);go_simp;refine hK _ ?_;clear hK K)
        have y0:=(haB.ext hu4).at 0 rfl
        have x0:=(haB.ext hu4).frozen 0
        have hB4:=blk1 (haB.ext hu4) (.slice F0 p0 s0)
        have hE4:=ext1 hx4 haG (.slice F0 p0 s0)
        refine tree_l rfl ?_
        go_wp2_with fail
        refine⟨_,fun _ h=>h,⟨⟨_,hE4⟩,rfl⟩,?_⟩
        repeat (refine tree_q rfl (fun K hK=>?_);go_simp;refine hK _ ?_;clear hK K)
        refine tree_done ?_
        try simp only[dS_,dZ_]
        go_wp2_with fail
        go_meet
        exact⟨_,F0,p0,s0,rfl,rfl,hB4,(nat1 (b0:=F0) (m0:=p0) (d0:=s0) k0 (haB.ext hu4)),hYd.trans hE4⟩
    · skip
      go_wp2_with fail
      have haE:=Upd.alloc h0E (.cells #[.slice none 0 0] 34)
      have haB:Blk (World.alloc Y.drew (.cells #[.slice none 0 0] 34)) Y.heap.size 34 #[.slice none 0 0]:=Blk.new Y.drew 34 #[.slice none 0 0]
      have haG:Y.drew.heap.size≤Y.heap.size:=Nat.le_refl _
      have haX:Ext Y.drew (World.alloc Y.drew (.cells #[.slice none 0 0] 34)):=uR_.alloc _
      refine⟨_,fun _ h=>h,⟨⟨_,haE⟩,rfl⟩,?_⟩
      repeat (refine tree_q rfl (fun K hK=>?_);go_simp;refine hK _ ?_;clear hK K)
      refine tree_l rfl ?_
      go_wp2_with (go_at_call 13;go_must (refine(new_any x _ hx64).mono ?_);rintro e u2 ⟨A7,l7,c7,rfl,hV7,hu2⟩;have hx2:=Upd.trans haE hu2)
      refine⟨_,fun _ h=>h,⟨⟨_,hx2⟩,rfl⟩,?_⟩
      repeat (refine tree_q rfl (fun K hK=>?_);go_simp;refine hK _ ?_;clear hK K)
      refine tree_l rfl ?_
      go_wp2_with (go_at_call 46;go_must (refine(Hshared.out gr _ _ _ _ _ _ _ o Ho.out ((hGd.ext haX).ext hu2) hV7 ((hod.ext haX).ext hu2)).mono ?_);rintro e u4 ⟨F0,p0,s0,rfl,k0,hu4⟩;have hx4:=Upd.trans hx2 hu4)
      refine⟨_,fun _ h=>h,⟨⟨_,hx4⟩,rfl⟩,?_⟩
      repeat (refine tree_q rfl (fun K hK=>?_);go_simp;refine hK _ ?_;clear hK K)
      have y0:=((haB.ext hu2).ext hu4).at 0 rfl
      have x0:=((haB.ext hu2).ext hu4).frozen 0
      have hB4:=blk1 ((haB.ext hu2).ext hu4) (.slice F0 p0 s0)
      have hE4:=ext1 hx4 haG (.slice F0 p0 s0)
      refine tree_l rfl ?_
      go_wp2_with fail
      refine⟨_,fun _ h=>h,⟨⟨_,hE4⟩,rfl⟩,?_⟩
      repeat (refine tree_q rfl (fun K hK=>?_);go_simp;refine hK _ ?_;clear hK K)
      refine tree_done ?_
      try simp only[dS_,dZ_]
      go_wp2_with fail
      go_meet
      exact⟨_,F0,p0,s0,rfl,rfl,hB4,(nat1 (b0:=F0) (m0:=p0) (d0:=s0) k0 ((haB.ext hu2).ext hu4)),hYd.trans hE4⟩
   case rest=>
    obtain⟨g17,F0,p0,s0,rfl,rfl,b17,k17,hYZ⟩:=hcut
    have k13z:=k13y.ext hYZ
    have n13z:=n13y.ext hYZ
    have hGZ:=hGY.ext hYZ
    have b12z:=b12y.ext hYZ
    have hRZ:=hRY.ext hYZ
    have hEZ:=hEY.trans hYZ
    have b14z:=b14.ext hYZ
    have k14z:=k14.ext hYZ
    have hpSz:=hpS.ext hYZ
    clear k13y n13y hGY b12y hRY hEY hYZ b14 k14 hpS
    obtain⟨Z,hZ⟩:∃Z,Z=wc:=⟨_,rfl⟩
    subst hZ
    go_wp2_with fail
    go_cut [20,21] (fun s20 s21 wx=>CutSn Z s20 s21 wx)
    case first=>
     have hZd:Ext Z Z.drew:=uR_.drew
     have q13:=fun y:Wd (Ext Z.drew)=>y.ok.cellv (k13z.ext hZd).cell
     have h0E:Ext Z.drew Z.drew:=uR_
     refine wp_region_tree (Ext Z.drew) 12 (.q 0 (.q 2 (.q 3 (.two 1 9 (.two 4 9 (.q 5 (.q 6 (.q 7 (.q 8 (.l 9 (.l 10 (.q 11 .done))))))) (.l 4 (.q 5 (.q 6 (.q 7 (.q 8 (.l 10 (.q 11 .done)))))))) (.l 1 (.l 4 (.q 5 (.q 6 (.q 7 (.q 8 (.l 10 (.q 11 .done)))))))))))) (by kernel_rfl) (by kernel_rfl) (uR_) (fun hne=>?_)
     repeat (refine tree_q rfl (fun K hK=>?_);go_simp;refine hK _ ?_;clear hK K)
     refine tree_two rfl rfl ?_ ?_
     · skip
       go_wp2_with (go_at_call 13;go_must (refine(new_any x _ hx64).mono ?_);rintro e u1 ⟨A7,l7,c7,rfl,hV7,hu1⟩;have hx1:=Upd.trans h0E hu1)
       refine⟨_,fun _ h=>h,⟨⟨_,hx1⟩,rfl⟩,?_⟩
       repeat (refine tree_q rfl (fun K hK=>?_);go_simp;refine hK _ ?_;clear hK K)
       refine tree_two rfl rfl ?_ ?_
       · skip
         go_wp2_with (go_at_call 45;go_must (refine(lshow_nil _ _ _ _ _ _ _ s).mono ?_);rintro e u4 ⟨rfl,hu4⟩;have hx4:=Upd.trans hx1 hu4)
         refine⟨_,fun _ h=>h,⟨⟨_,hx4⟩,rfl⟩,?_⟩
         repeat (refine tree_q rfl (fun K hK=>?_);go_simp;refine hK _ ?_;clear hK K)
         refine tree_l rfl ?_
         go_wp2_with fail
         have haE:=Upd.alloc hx4 (.cells #[.slice none 0 0] 34)
         have haB:Blk (World.alloc u4 (.cells #[.slice none 0 0] 34)) u4.heap.size 34 #[.slice none 0 0]:=Blk.new u4 34 #[.slice none 0 0]
         have haG:Z.drew.heap.size≤u4.heap.size:=Upd.size hx4
         have haX:Ext u4 (World.alloc u4 (.cells #[.slice none 0 0] 34)):=uR_.alloc _
         refine⟨_,fun _ h=>h,⟨⟨_,haE⟩,rfl⟩,?_⟩
         repeat (refine tree_q rfl (fun K hK=>?_);go_simp;refine hK _ ?_;clear hK K)
         have hB4:=Blk.new u4 34 #[.slice none 0 0]
         have hE4:=Upd.alloc hx4 (.cells #[.slice none 0 0] 34)
         have hX4:Ext u4 (World.alloc u4 (.cells #[.slice none 0 0] 34)):=uR_.alloc _
         refine tree_l rfl ?_
         go_wp2_with fail
         refine⟨_,fun _ h=>h,⟨⟨_,hE4⟩,rfl⟩,?_⟩
         repeat (refine tree_q rfl (fun K hK=>?_);go_simp;refine hK _ ?_;clear hK K)
         refine tree_done ?_
         try simp only[dS_,dZ_]
         go_wp2_with fail
         go_meet
         exact⟨rfl,rfl,hZd.trans hE4⟩
       · skip
         go_wp2_with fail
         have haE:=Upd.alloc hx1 (.cells #[.slice none 0 0] 34)
         have haB:Blk (World.alloc u1 (.cells #[.slice none 0 0] 34)) u1.heap.size 34 #[.slice none 0 0]:=Blk.new u1 34 #[.slice none 0 0]
         have haG:Z.drew.heap.size≤u1.heap.size:=Upd.size hx1
         have haX:Ext u1 (World.alloc u1 (.cells #[.slice none 0 0] 34)):=uR_.alloc _
         refine⟨_,fun _ h=>h,⟨⟨_,haE⟩,rfl⟩,?_⟩
         repeat (refine tree_q rfl (fun K hK=>?_);go_simp;refine hK _ ?_;clear hK K)
         refine tree_l rfl ?_
         go_wp2_with (go_at_call 45;go_must (refine(lshow_nil _ _ _ _ _ _ _ s).mono ?_);rintro e u4 ⟨rfl,hu4⟩;have hx4:=Upd.trans haE hu4)
         refine⟨_,fun _ h=>h,⟨⟨_,hx4⟩,rfl⟩,?_⟩
         repeat (refine tree_q rfl (fun K hK=>?_);go_simp;refine hK _ ?_;clear hK K)
         have y0:=(haB.ext hu4).at 0 rfl
         have x0:=(haB.ext hu4).frozen 0
         have hB4:=blk1 (haB.ext hu4) (.slice none 0 0)
         have hE4:=ext1 hx4 haG (.slice none 0 0)
         refine tree_l rfl ?_
         go_wp2_with fail
         refine⟨_,fun _ h=>h,⟨⟨_,hE4⟩,rfl⟩,?_⟩
         repeat (refine tree_q rfl (fun K hK=>?_);go_simp;refine hK _ ?_;clear hK K)
         refine tree_done ?_
         try simp only[dS_,dZ_]
         go_wp2_with fail
         go_meet
         exact⟨rfl,rfl,hZd.trans hE4⟩
     · skip
       go_wp2_with fail
       have haE:=Upd.alloc h0E (.cells #[.slice none 0 0] 34)
       have haB:Blk (World.alloc Z.drew (.cells #[.slice none 0 0] 34)) Z.heap.size 34 #[.slice none 0 0]:=Blk.new Z.drew 34 #[.slice none 0 0]
       have haG:Z.drew.heap.size≤Z.heap.size:=Nat.le_refl _
       have haX:Ext Z.drew (World.alloc Z.drew (.cells #[.slice none 0 0] 34)):=uR_.alloc _
       refine⟨_,fun _ h=>h,⟨⟨_,haE⟩,rfl⟩,?_⟩
       repeat (refine tree_q rfl (fun K hK=>?_);go_simp;refine hK _ ?_;clear hK K)
       refine tree_l rfl ?_
       go_wp2_with (go_at_call 13;go_must (refine(new_any x _ hx64).mono ?_);rintro e u1 ⟨A7,l7,c7,rfl,hV7,hu1⟩;have hx1:=Upd.trans haE hu1)
       refine⟨_,fun _ h=>h,⟨⟨_,hx1⟩,rfl⟩,?_⟩
       repeat (refine tree_q rfl (fun K hK=>?_);go_simp;refine hK _ ?_;clear hK K)
       refine tree_l rfl ?_
       go_wp2_with (go_at_call 45;go_must (refine(lshow_nil _ _ _ _ _ _ _ s).mono ?_);rintro e u4 ⟨rfl,hu4⟩;have hx4:=Upd.trans hx1 hu4)
       refine⟨_,fun _ h=>h,⟨⟨_,hx4⟩,rfl⟩,?_⟩
       repeat (refine tree_q rfl (fun K hK=>?_);go_simp;refine hK _ ?_;clear hK K)
       have y0:=((haB.ext hu1).ext hu4).at 0 rfl
       have x0:=((haB.ext hu1).ext hu4).frozen 0
       have hB4:=blk1 ((haB.ext hu1).ext hu4) (.slice none 0 0)
       have hE4:=ext1 hx4 haG (.slice none 0 0)
       refine tree_l rfl ?_
       go_wp2_with fail
       refine⟨_,fun _ h=>h,⟨⟨_,hE4⟩,rfl⟩,?_⟩
       repeat (refine tree_q rfl (fun K hK=>?_);go_simp;refine hK _ ?_;clear hK K)
       refine tree_done ?_
       try simp only[dS_,dZ_]
       go_wp2_with fail
       go_meet
       exact⟨rfl,rfl,hZd.trans hE4⟩
    case rest=>
     obtain⟨rfl,rfl,hZU⟩:=hcut
     obtain⟨U,hU⟩:∃U,U=wc:=⟨_,rfl⟩
     subst hU
     have hq:ShwQ w U gr P Q G H o w3.heap.size g13 g14 g17 N zs zt prf #[.slice B1 m1 d1,.slice B2 m2 d2,.slice B3 m3 d3,.slice B4 m4 d4] EO E0 F0 AP mO dO i0 j0 p0 s0 cP:=⟨hGZ.ext hZU,b12z.ext hZU,hRZ.ext hZU,k13z.ext hZU,n13z.ext hZU,b14z.ext hZU,k14z.ext hZU,b17.ext hZU,k17.ext hZU,⟨hpSz.ext hZU,hpl,hpc,hpm⟩,hEZ.trans hZU⟩
     clear k13z n13z hGZ b12z hRZ hEZ b14z k14z hpSz hZU b17 k17 hpl hpc hpm Hshow Hshared
     have hcs:ShwC P Q G o x s N zs prf er zt et:=by rw[Ho.out];exact Hcs0.out
     have Hcs:=hide hcs
     clear Hcs0 hcs
     have hbx:blen x≤1024:=Nat.le_trans hFx.blen (by omega)
     go_wp2_with fail
     refine name_w (fun T hT=>?_)
     subst hT
     have hTd:Ext T T.drew:=uR_.drew
     have hqd:=hq.up hTd
     have y0:=fun y:Wd (Ext T.drew)=>y.ok.cellv (hqd.vgb.at 0 rfl)
     have y1:=fun y:Wd (Ext T.drew)=>y.ok.cellv (hqd.vgb.at 1 rfl)
     have y2:=fun y:Wd (Ext T.drew)=>y.ok.cellv (hqd.vgb.at 2 rfl)
     have y3:=fun y:Wd (Ext T.drew)=>y.ok.cellv (hqd.vgb.at 3 rfl)
     have q13:=fun y:Wd (Ext T.drew)=>y.ok.cellv hqd.b13.cell
     by_cases hkx:0<x∧x<Q
     case neg=>
      obtain⟨rfl,rfl,rfl,rfl,rfl, -⟩:er=1∧et=1∧zs=0∧zt=0∧N=0∧True:=by
       rcases Hcs.out with ⟨h1,h2,h3,h4,h5, -⟩ | ⟨-, -,h3, -⟩ | ⟨-, -, -, -, -,h3, -⟩
       · exact⟨h1,h2,h3,h4,h5,trivial⟩
       · exact absurd h3 hkx
       · exact absurd h3 hkx
      refine wp_region_plan (Ext _) 11 [(false,0),(false,1),(true,2),(true,3),(true,4),(false,5),(false,6),(false,7),(false,8),(true,9),(false,10)] (by kernel_rfl) (by kernel_rfl) (uR_) (fun hne=>?_)
      repeat (refine hq_ rfl fun K k=>?_;go_simp;refine k.out _ ?_;clear k K)
      refine head_l rfl ?_
      go_wp2_with (go_at_call 13;go_must (refine(new_any x _ hx64).mono ?_);rintro e t1 ⟨A7,l7,c7,rfl,hV7,ht1⟩)
      refine kx_ ht1 ?_
      repeat (refine hq_ rfl fun K k=>?_;go_simp;refine k.out _ ?_;clear k K)
      refine head_l rfl ?_
      go_wp2_with (go_at_call 20;go_must (refine(gnum_any _ x 32 _ hV7 hFx (by omega)).mono ?_);rintro e t2 ⟨A8,l8,c8,rfl,hV8,ht2⟩;replace ht2:=ht1.trans ht2)
      refine kx_ ht2 ?_
      repeat (refine hq_ rfl fun K k=>?_;go_simp;refine k.out _ ?_;clear k K)
      refine head_l rfl ?_
      go_wp2_with (go_at_call 47;go_must (refine(lrKey_any P Q G H _ _ _ x (hqd.ref.ext ht2) hV8 hbx hQb).mono ?_);rw[decide_eq_false hkx];rintro e t3 ⟨rfl,ht3⟩;replace ht3:=ht2.trans ht3)
      refine kx_ ht3 ?_
      repeat (refine hq_ rfl fun K k=>?_;go_simp;refine k.out _ ?_;clear k K)
      refine head_l rfl ?_
      go_wp2_with fail
      refine kx_ ht3 ?_
      repeat (refine hq_ rfl fun K k=>?_;go_simp;refine k.out _ ?_;clear k K)
      refine head_nil ?_
      try simp only[dS_,dZ_]
      have hq:=hqd.up ht3
      clear y0 y1 y2 y3 q13 hqd
      have q14:=hq.b14.cell
      have q17:=hq.b17.cell
      go_wp2_with fail
      refine(zero_any _ 0 _ hq.v14).mono ?_
      rw[decide_eq_true rfl]
      rintro e t1 ⟨rfl,ht1⟩
      have q17:=(hq.b17.ext ht1).cell
      go_wp2_with fail
      refine(zero_any _ 0 _ (hq.v17.ext ht1)).mono ?_
      rw[decide_eq_true rfl]
      rintro e t2 ⟨rfl,ht2⟩
      have hEf:=(hq.ext.trans ht1).trans ht2
      clear q14 q17
      go_wp2_with fail
      go_ret
      exact⟨rfl,hEf⟩
     case pos=>
      refine wp_region_plan (Ext _) 11 [(false,0),(false,1),(true,2),(true,3),(true,4),(false,5),(false,6),(false,7),(false,8),(true,9),(false,10)] (by kernel_rfl) (by kernel_rfl) (uR_) (fun hne=>?_)
      repeat (refine hq_ rfl fun K k=>?_;go_simp;refine k.out _ ?_;clear k K)
      refine head_l rfl ?_
      go_wp2_with (go_at_call 13;go_must (refine(new_any x _ hx64).mono ?_);rintro e t1 ⟨A7,l7,c7,rfl,hV7,ht1⟩)
      refine kx_ ht1 ?_
      repeat (refine hq_ rfl fun K k=>?_;go_simp;refine k.out _ ?_;clear k K)
      refine head_l rfl ?_
      go_wp2_with (go_at_call 20;go_must (refine(gnum_any _ x 32 _ hV7 hFx (by omega)).mono ?_);rintro e t2 ⟨A8,l8,c8,rfl,hV8,ht2⟩;replace ht2:=ht1.trans ht2)
      refine kx_ ht2 ?_
      repeat (refine hq_ rfl fun K k=>?_;go_simp;refine k.out _ ?_;clear k K)
      refine head_l rfl ?_
      go_wp2_with (go_at_call 47;go_must (refine(lrKey_any P Q G H _ _ _ x (hqd.ref.ext ht2) hV8 hbx hQb).mono ?_);rw[decide_eq_true hkx];rintro e t3 ⟨rfl,ht3⟩;replace ht3:=ht2.trans ht3)
      refine kx_ ht3 ?_
      repeat (refine hq_ rfl fun K k=>?_;go_simp;refine k.out _ ?_;clear k K)
      obtain⟨mo,hmo⟩:∃b,b=memB P Q o:=⟨_,rfl⟩
      have Hmo:=hide hmo
      clear hmo
      refine head_l rfl ?_
      go_wp2_with (go_at_call 14;go_must (refine(gMember_any gr P Q G H 32 _ _ o (hqd.grp.ext ht3) (hqd.v13.ext ht3) hFo hP hQ (by omega) (by omega)).mono ?_);rw[←Hmo.out];rintro e t4 ⟨rfl,ht4⟩;replace ht4:=ht3.trans ht4)
      refine kx_ ht4 ?_
      repeat (refine hq_ rfl fun K k=>?_;go_simp;refine k.out _ ?_;clear k K)
      refine head_nil ?_
      try simp only[dS_,dZ_]
      have hq:=hqd.up ht4
      clear y0 y1 y2 y3 q13 hqd hV7 hV8
      cases mo with
      | false=>
        obtain⟨rfl,rfl,rfl,rfl,rfl, -⟩:er=1∧et=1∧zs=0∧zt=0∧N=0∧True:=by
         rcases Hcs.out with ⟨h1,h2,h3,h4,h5, -⟩ | ⟨-, -, -,h3, -⟩ | ⟨-, -, -, -, -, -,h3, -⟩
         · exact⟨h1,h2,h3,h4,h5,trivial⟩
         · rw[←Hmo.out]at h3;cases h3
         · rw[←Hmo.out]at h3;cases h3
        have q14:=hq.b14.cell
        have q17:=hq.b17.cell
        go_wp2_with fail
        refine(zero_any _ 0 _ hq.v14).mono ?_
        rw[decide_eq_true rfl]
        rintro e t1 ⟨rfl,ht1⟩
        have q17:=(hq.b17.ext ht1).cell
        go_wp2_with fail
        refine(zero_any _ 0 _ (hq.v17.ext ht1)).mono ?_
        rw[decide_eq_true rfl]
        rintro e t2 ⟨rfl,ht2⟩
        have hEf:=(hq.ext.trans ht1).trans ht2
        clear q14 q17
        go_wp2_with fail
        go_ret
        exact⟨rfl,hEf⟩
      | true=>
        go_wp2_with fail
        refine(rIn_any _ s).mono ?_
        cases his:inB s with
        | false=>
          obtain⟨rfl,rfl⟩:er=1∧et=0:=by
           rcases Hcs.out with ⟨-, -, -, -, -,h3⟩ | ⟨h1,h2, -⟩ | ⟨-, -, -, -, -, -, -,q,h3,h4, -⟩
           · have:=h3 hkx;rw[←Hmo.out]at this;cases this
           · exact⟨h1,h2⟩
           · rw[h3]at his;simp only[inB,decide_eq_false_iff_not]at his;omega
          rintro e t5 ⟨rfl,rfl⟩
          have hEf:=hq.ext
          go_wp2_with fail
          go_ret
          exact⟨rfl,hEf⟩
        | true=>
          have hc3:er=0∧et=0∧zs=o^x % P∧zs=zt∧N=2*byteSz Q∧∃q:Nat,s=(q:Int)∧q≤1048576∧prf=pvB P Q G o x (sideB q):=by
           rcases Hcs.out with ⟨-, -, -, -, -,h3⟩ | ⟨-, -, -, -,h3⟩ | ⟨h1,h2,h3,h4,h5, -, -,h6⟩
           · have:=h3 hkx;rw[←Hmo.out]at this;cases this
           · rw[his]at h3;cases h3
           · exact⟨h1,h2,h3,h3.trans h4.symm,h5,h6⟩
          obtain⟨rfl,rfl,hzs,rfl,hN,q,rfl,hq20,hprf⟩:=hc3
          have Hzs:=hide hzs
          have HN:=hide hN
          have Hprf:=hide hprf
          have HoM:Hid (memB P Q o=true):=hide Hmo.out.symm
          have hFz:Fit 32 zs:=by rw[hzs];exact hP.le (Nat.le_of_lt (Nat.mod_lt _ (by omega)))
          have hgood:dverB P Q G o (G^x % P) zs (sideB q) prf=true:=by rw[hzs,hprf];exact proved HmG.out HoM.out hP2 hQ64 x (sideB q)
          have Hgood:=hide hgood
          have hFm:Fit 32 (G^x % P):=hP.le (Nat.le_of_lt (Nat.mod_lt _ (by omega)))
          have hpl:prf.length=N:=hq.prf.2.1
          have Hpl:=hide hpl
          clear hzs hN hprf hgood Hcs his hpl
          rintro e t5 ⟨rfl,rfl⟩
          go_wp2_with fail
          refine name_w (fun S hS=>?_)
          subst hS
          have hSd:Ext S S.drew:=uR_.drew
          have hqd:=hq.up hSd
          have y0:=fun y:Wd (Ext S.drew)=>y.ok.cellv (hqd.vgb.at 0 rfl)
          have y1:=fun y:Wd (Ext S.drew)=>y.ok.cellv (hqd.vgb.at 1 rfl)
          have y2:=fun y:Wd (Ext S.drew)=>y.ok.cellv (hqd.vgb.at 2 rfl)
          have y3:=fun y:Wd (Ext S.drew)=>y.ok.cellv (hqd.vgb.at 3 rfl)
          have q13:=fun y:Wd (Ext S.drew)=>y.ok.cellv hqd.b13.cell
          refine wp_region_plan (Ext _) 12 [(false,0),(false,1),(false,4),(false,6),(true,2),(true,3),(true,5),(true,7),(false,8),(false,9),(false,10),(false,11)] (by kernel_rfl) (by kernel_rfl) (uR_) (fun hne=>?_)
          repeat (refine hq_ rfl fun K k=>?_;go_simp;refine k.out _ ?_;clear k K)
          refine head_l rfl ?_
          go_wp2_with (go_at_call 13;go_must (refine(new_any x _ hx64).mono ?_);rintro e t1 ⟨A7,l7,c7,rfl,hV7,hs1⟩)
          refine kx_ hs1 ?_
          repeat (refine hq_ rfl fun K k=>?_;go_simp;refine k.out _ ?_;clear k K)
          refine head_l rfl ?_
          go_wp2_with (go_at_call 20;go_must (refine(gnum_any _ x 32 _ hV7 hFx (by omega)).mono ?_);rintro e t2 ⟨A8,l8,c8,rfl,hV8,hs2⟩;replace hs2:=hs1.trans hs2)
          refine kx_ hs2 ?_
          repeat (refine hq_ rfl fun K k=>?_;go_simp;refine k.out _ ?_;clear k K)
          refine head_l rfl ?_
          go_wp2_with (go_at_call 20;go_must (refine(gnum_any _ o 32 _ (hqd.v13.ext hs2) hFo (by omega)).mono ?_);rintro e t3 ⟨A9,l9,c9,rfl,hV9,hs3⟩;replace hV8:=hV8.ext hs3;replace hs3:=hs2.trans hs3)
          refine kx_ hs3 ?_
          repeat (refine hq_ rfl fun K k=>?_;go_simp;refine k.out _ ?_;clear k K)
          refine head_l rfl ?_
          go_wp2_with (go_at_call 48;go_must (refine(lrshow_any P Q G H _ _ _ _ x o q (hqd.ref.ext hs3) hV8 hV9 hP2 hQ64 hPb hQb HmG.out HoM.out hkx.2 hq20).mono ?_);rw[←HN.out,←Hzs.out,←Hprf.out];rintro e t4 ⟨D5,n5,d5,D6,d6,rfl,hR5,hp6,hs4⟩;replace hs4:=hs3.trans hs4)
          refine kx_ hs4 ?_
          repeat (refine hq_ rfl fun K k=>?_;go_simp;refine k.out _ ?_;clear k K)
          refine head_nil ?_
          try simp only[dS_,dZ_]
          have hq:=hqd.up hs4
          clear y0 y1 y2 y3 q13 hqd hV7 hV8 hV9
          go_wp2_with fail
          refine(gG_any gr P Q G H _ hq.grp).mono ?_
          rintro e v1 ⟨D7,n7,d7,rfl,hW7,hv1⟩
          go_wp2_with fail
          refine(new_any x _ hx64).mono ?_
          rintro e v2 ⟨D8,n8_,d8,rfl,hW8,hv2⟩
          go_wp2_with fail
          refine(gExp_any gr P Q G H 32 _ _ _ G x 32 (hq.grp.ext (hv1.trans hv2)) (hW7.ext hv2) hW8 hGf hP hFx (by omega) (by omega)).mono ?_
          rintro e v3 ⟨D9,n9,d9,rfl,hW9,hv3⟩
          obtain⟨V,hV⟩:∃V,V=v3.alloc (.cells #[.slice D9 n9 d9] 34):=⟨_,rfl⟩
          have b24:Box V v3.heap.size 34 (.slice D9 n9 d9):=by rw[hV];exact Box.new _ _ _
          have hvV:Ext v3 V:=by rw[hV];exact uR_.alloc _
          have hvX:=((hv1.trans hv2).trans hv3).trans hvV
          have hqV:=hq.up hvX
          have hW9V:=hW9.ext hvV
          have hR5V:=hR5.ext hvX
          have hp6V:=hp6.ext hvX
          have q14:=hqV.b14.cell
          rw[hV]at q14
          clear hq hW7 hW8 hW9 hv1 hv2 hv3 hvV hR5 hp6 hvX
          go_wp2_with fail
          rw[←hV]
          clear q14 hV
          refine(lsame_any _ _ zs zs 32 V hqV.v14 hR5V hFz hFz (by omega)).mono ?_
          rw[decide_eq_true rfl]
          rintro e u1 ⟨rfl,hu1⟩
          have q14:=(hqV.b14.ext hu1).cell
          have q17:=(hqV.b17.ext hu1).cell
          go_wp2_with fail
          clear q14 q17
          refine(cmp_any _ _ zs zs 32 _ (hqV.v14.ext hu1) (hqV.v17.ext hu1) hFz hFz (by omega)).mono ?_
          rw[cmpI_aa]
          rintro e u2 ⟨rfl,hu2⟩
          have hu12:=hu1.trans hu2
          have hk1:=run_str (P:=Tryz.prog) (c:=cP) Tryz.under_bs Tryz.under8 Tryz.underS (hqV.prf.1.ext hu12) Hpl.out
          have hk2:=run_str (P:=Tryz.prog) (c:=d6) Tryz.under_bs Tryz.under8 Tryz.underS (hp6V.1.ext hu12) Hpl.out
          obtain⟨ST,hST⟩:∃ST,ST=str prf:=⟨_,rfl⟩
          rw[←hST]at hk1 hk2
          have q24:=(b24.ext hu12).cell
          have q13:=(hqV.b13.ext hu12).cell
          have q14:=(hqV.b14.ext hu12).cell
          clear hST
          go_wp2_with fail
          clear hk1 hk2 q24 q13 q14
          refine(lshown_any gr P Q G H _ D9 EO E0 AP n9 d9 mO dO i0 j0 N cP (G^x % P) o zs q prf (hqV.grp.ext hu12) (hW9V.ext hu12) (hqV.v13.ext hu12) (hqV.v14.ext hu12) (hqV.prf.ext hu12) hFm hFo hFz hGf hP hQ hP2 hQ64 hz128 hq20 (by have:=HN.out;omega)).mono ?_
          rw[Hgood.out]
          rintro e u3 ⟨rfl,hu3⟩
          have hEf:=(hqV.ext.trans hu12).trans hu3
          go_wp2_with fail
          go_ret
          exact⟨rfl,hEf⟩
theorem lshws_any (z:Int) (x y:Nat) (raw:Bool) (s:Int) (w:World) (hx64:x<18446744073709551616) (hy64:y<18446744073709551616):
 Calls Tryz.prog 7 #[.int .i64 z,.int .u64 (x:Nat),.int .u64 (y:Nat),.bool raw,.int .i64 s] w fun e w'=>e=.returned (.bool true)∧Ext w w':=by
 obtain⟨r,hr,hnum⟩:=gnums_any z
 have hP:Fit 32 (grP r):=(fit_grP r).mono (by omega)
 have hQ:Fit 32 (grQ r):=(fit_grQ r).mono (by omega)
 have hGf:Fit 32 (grG r):=(fit_grG r).mono (by omega)
 have hgok:=gok r hr
 have hP2:=hgok.two
 have hQ64:=hgok.sml
 have hFx:Fit 32 x:=(fit2 hx64).mono (by omega)
 have hFy:Fit 32 y:=(fit2 hy64).mono (by omega)
 have hFo:Fit 32 (otN raw (grP r) (grQ r) (grG r) y):=by
  unfold otN
  split
  · exact hFy
  · exact hP.le (Nat.le_of_lt (Nat.mod_lt _ (by omega)))
 by_cases hk:(0<x∧x<grQ r)∧memB (grP r) (grQ r) (otN raw (grP r) (grQ r) (grG r) y)=true
 · cases hi:inB s with
   | false=>
     refine lshws_core _ _ _ _ r z hr rfl rfl rfl rfl x y raw s w (fun w'=>hnum none 0 0 w') hx64 hy64 0 0 [] 1 (otN raw (grP r) (grQ r) (grG r) y^x % grP r) 0 (.inr (.inl ⟨rfl,rfl,hk.1,hk.2,hi⟩)) ?_ ?_
     · rintro gr A0 A1 l0 c0 l1 c1 w o rfl hG h0 h1
       exact lshow_er gr _ _ _ _ w A0 A1 l0 c0 l1 c1 x _ s hG h0 h1 hFx hFo hP hQ hGf (fun _=>hi)
     · rintro gr A0 A1 l0 c0 l1 c1 w o rfl hG h0 h1
       exact lshared_any gr _ _ _ _ 32 w A0 A1 l0 c0 l1 c1 x _ hG h0 h1 hFx hFo hP hQ hGf (by omega) (by omega) hk.1.1 hk.1.2 hk.2
   | true=>
     obtain⟨q,rfl,hq⟩:=inB_nat hi
     refine lshws_core _ _ _ _ r z hr rfl rfl rfl rfl x y raw _ w (fun w'=>hnum none 0 0 w') hx64 hy64 _ _ _ 0 (otN raw (grP r) (grQ r) (grG r) y^x % grP r) 0 (.inr (.inr ⟨rfl,rfl,rfl,rfl,rfl,hk.1,hk.2,q,rfl,hq,rfl⟩)) ?_ ?_
     · rintro gr A0 A1 l0 c0 l1 c1 w o rfl hG h0 h1
       exact lshow_ok gr _ _ _ _ w A0 A1 l0 c0 l1 c1 x _ q hG h0 h1 hFx hFo hP hQ hGf hP2 hQ64 hk.1.1 hk.1.2 (gMem r hr) hk.2 hq
     · rintro gr A0 A1 l0 c0 l1 c1 w o rfl hG h0 h1
       exact lshared_any gr _ _ _ _ 32 w A0 A1 l0 c0 l1 c1 x _ hG h0 h1 hFx hFo hP hQ hGf (by omega) (by omega) hk.1.1 hk.1.2 hk.2
 · have hno:(0<x∧x<grQ r)→memB (grP r) (grQ r) (otN raw (grP r) (grQ r) (grG r) y)=false:=fun h=>by
     cases hm:memB (grP r) (grQ r) (otN raw (grP r) (grQ r) (grG r) y)with
     | false=>rfl
     | true=>exact absurd ⟨h,hm⟩ hk
   refine lshws_core _ _ _ _ r z hr rfl rfl rfl rfl x y raw s w (fun w'=>hnum none 0 0 w') hx64 hy64 0 0 [] 1 0 1 (.inl ⟨rfl,rfl,rfl,rfl,rfl,hno⟩) ?_ ?_
   · rintro gr A0 A1 l0 c0 l1 c1 w o rfl hG h0 h1
     exact lshow_er gr _ _ _ _ w A0 A1 l0 c0 l1 c1 x _ s hG h0 h1 hFx hFo hP hQ hGf (fun h=>absurd h hk)
   · rintro gr A0 A1 l0 c0 l1 c1 w o rfl hG h0 h1
     exact lshared_no gr _ _ _ _ 32 w A0 A1 l0 c0 l1 c1 x _ hG h0 h1 hFx hFo hP hQ hGf (by omega) (by omega) hno
end Go.Proofs.YtdohmikoafkniaaGreat
