/- Equal exponents, walked: Prove. -/
import Derived.Test.YtdohmikoafkniaaGreatLwDlqC
set_option maxRecDepth 100000
set_option maxHeartbeats 8000000
namespace Go.Proofs.YtdohmikoafkniaaGreat
set_option linter.unusedSimpArgs false
set_option linter.unusedVariables false
open Go.RowKit
open Nt Sha
attribute [local go_sem] steady steadyUpon Cls same_cell anyW
attribute [local irreducible] wpHead wpTree wpHeadR sum chalOf ansN
def blk4M (B:Nat) (t:TypeId):MF:=⟨fun v w=>∃g,v=.pointer (some ⟨g,0,none⟩)∧B≤g∧Blk w g t #[.slice none 0 0,.slice none 0 0,.slice none 0 0,.slice none 0 0],fun _ _ _ ⟨g,e,h1,h⟩ hU=>⟨g,e,h1,h.ext hU⟩⟩
theorem blk4M_mk {B:Nat} {t:TypeId} {v:Value} {w:World} (h:∃g,v=.pointer (some ⟨g,0,none⟩)∧B≤g∧Blk w g t #[.slice none 0 0,.slice none 0 0,.slice none 0 0,.slice none 0 0]):(blk4M B t).p v w:=h
theorem blk4M_out {B:Nat} {t:TypeId} {v:Value} {w:World} (h:(blk4M B t).p v w):∃g,v=.pointer (some ⟨g,0,none⟩)∧B≤g∧Blk w g t #[.slice none 0 0,.slice none 0 0,.slice none 0 0,.slice none 0 0]:=h
def clM (a b:Value) (y z:Nat):MF:=⟨fun v w=>∃A l c A' l' c',v=.agg #[a,b,.slice A l c,.slice A' l' c']∧NatV w (.agg #[.slice A l c]) y∧NatV w (.agg #[.slice A' l' c']) z,fun _ _ _ ⟨A,l,c,A',l',c',e,h1,h2⟩ hU=>⟨A,l,c,A',l',c',e,h1.ext hU,h2.ext hU⟩⟩
theorem clM_mk {a b:Value} {y z:Nat} {v:Value} {w:World} (h:∃A l c A' l' c',v=.agg #[a,b,.slice A l c,.slice A' l' c']∧NatV w (.agg #[.slice A l c]) y∧NatV w (.agg #[.slice A' l' c']) z):(clM a b y z).p v w:=h
theorem clM_out {a b:Value} {y z:Nat} {v:Value} {w:World} (h:(clM a b y z).p v w):∃A l c A' l' c',v=.agg #[a,b,.slice A l c,.slice A' l' c']∧NatV w (.agg #[.slice A l c]) y∧NatV w (.agg #[.slice A' l' c']) z:=h
def natMM (n:Nat):MF:=⟨fun v w=>∃A l c,v=.agg #[.slice A l c]∧NatV w (.agg #[.slice A l c]) n,fun _ _ _ ⟨A,l,c,e,h⟩ hU=>⟨A,l,c,e,h.ext hU⟩⟩
theorem natMM_mk {n:Nat} {v:Value} {w:World} (h:∃A l c,v=.agg #[.slice A l c]∧NatV w (.agg #[.slice A l c]) n):(natMM n).p v w:=h
theorem natMM_out {n:Nat} {v:Value} {w:World} (h:(natMM n).p v w):∃A l c,v=.agg #[.slice A l c]∧NatV w (.agg #[.slice A l c]) n:=h
theorem own4 {w:World} {g B:Nat} {e:TypeId} {A:Option Addr} {c:Nat} {xs:List Value} (h:Own w B e A c xs) (hg:g<B) (v0 v1 v2 v3:Value):Own ((((w.setCell ⟨g,0,none⟩ v0).setCell ⟨g,1,none⟩ v1).setCell ⟨g,2,none⟩ v2).setCell ⟨g,3,none⟩ v3) B e A c xs:=
 h.upd (((((Upd.refl (fun k=>k=g) w).setCell (p:=⟨g,0,none⟩) (.inl rfl) v0).setCell (p:=⟨g,1,none⟩) (.inl rfl) v1).setCell (p:=⟨g,2,none⟩) (.inl rfl) v2).setCell (p:=⟨g,3,none⟩) (.inl rfl) v3) (fun k hk hT=>by
   have h1:=(h.in_ hk).1
   have h2:k=g:=hT
   omega)
section
variable (gr P Q G H k : Nat) (w : World)
theorem dprove_any (A0 A1 A2 AS:Option Addr) (l0 c0 l1 c1 l2 c2 n c:Nat) (a b x:Nat) (side:List (BitVec 8)) (h:GrpV w gr P Q G H) (h0:NatV w (.agg #[.slice A0 l0 c0]) a) (h1:NatV w (.agg #[.slice A1 l1 c1]) b) (h2:NatV w (.agg #[.slice A2 l2 c2]) x)
 (hM:Pt.ok w ⟨AS,n,c,side⟩) (hFa:Fit k a) (hFb:Fit k b) (hFx:Fit k x) (hP:Fit k P) (hQ:Fit k Q) (hP2:2≤P) (hQ64:64<Q) (hk:k≤50000) (hk32:32≤k) (hn:n≤100000) (ha:memB P Q a=true) (hb:memB P Q b=true) (hxQ:x<Q):
 Calls Tryz.prog 12 #[.pointer (some ⟨gr,0,none⟩),.agg #[.slice A0 l0 c0],.agg #[.slice A1 l1 c1],.agg #[.slice A2 l2 c2],.slice AS n c] w (RetPv w (2*byteSz Q) a b (a^x % P) (b^x % P) (pvB P Q a b x side)):=by
 have hc1:=fun w=>Lib.run_convert_bytes_const (P:=Tryz.prog) w 23 5 #[.int .u8 100,.int .u8 108,.int .u8 101,.int .u8 113] 4 4 Tryz.under_bs Tryz.under8
 have HG:=hide h
 have HM:=hide hM
 have hzl:=byteSz_le hQ
 have hzP:=byteSz_le hP
 have hbx:bytelen x≤byteSz Q:=byteSz_mono (Nat.le_of_lt hxQ)
 obtain⟨z,hz⟩:∃z,z=byteSz Q:=⟨_,rfl⟩
 obtain⟨R,hR⟩:∃R,R=RetPv w (2*byteSz Q) a b (a^x % P) (b^x % P) (pvB P Q a b x side):=⟨_,rfl⟩
 rw[←hR]
 rw[←hz]at hzl hbx
 have Hz:=hide hz
 have HR:=hide hR
 have Ha:=hide ha
 have Hb:=hide hb
 clear hz hR h hM ha hb
 go_enter Tryz.func12,Tryz.ntmps12
 go_wp2_with fail
 refine name_w (fun X hX=>?_)
 have b6:Box X w.heap.size 34 (.slice A0 l0 c0):=by rw[hX];exact(((Box.new _ _ _).alloc _).alloc _).alloc _
 have b7:Box X (w.heap.size+1) 34 (.slice A1 l1 c1):=by rw[hX];exact((Box.new_at (by simp)).alloc _).alloc _
 have b8:Box X (w.heap.size+1+1) 34 (.slice A2 l2 c2):=by rw[hX];exact(Box.new_at (by simp)).alloc _
 have b10:Blk X (w.heap.size+1+1+1) 37 #[.slice none 0 0,.slice none 0 0,.slice none 0 0,.slice none 0 0]:=by rw[hX];exact Blk.new_at (by simp)
 have hE:Ext w X:=by rw[hX];exact((((Upd.refl _ w).alloc _).alloc _).alloc _).alloc _
 clear hX
 have hXd:Ext X X.drew:=uR_.drew
 have hED:=hE.trans hXd
 have y0:=fun y:Wd (Ext X.drew)=>y.ok.cellv b6.drew.cell
 have y1:=fun y:Wd (Ext X.drew)=>y.ok.cellv b7.drew.cell
 have y2:=fun y:Wd (Ext X.drew)=>y.ok.cellv b8.drew.cell
 have hall:[a,b].all (memB P Q)=true:=by simp only[List.all_cons,List.all_nil,Ha.out,Hb.out];rfl
 have Hall:=hide hall
 clear hall
 refine wp_region_plan (Ext _) 13 [(false,0),(false,1),(false,2),(true,3),(true,4),(false,5),(false,6),(false,7),(false,8),(true,9),(true,10),(true,11),(false,12)] (by kernel_rfl) (by kernel_rfl) (uR_) (fun hne=>?_)
 repeat (refine hq_ rfl fun K k=>?_;go_simp;refine k.out _ ?_;clear k K)
 refine head_l rfl ?_
 go_wp2_with fail
 refine⟨Cls (Ext _),fun _ h=>h,⟨⟨_,uR_.alloc _⟩,rfl⟩,?_⟩
 repeat (refine hq_ rfl fun K k=>?_;go_simp;refine k.out _ ?_;clear k K)
 have hX1:Ext X.drew (X.drew.alloc (.cells #[.slice A0 l0 c0,.slice A1 l1 c1] 34)):=uR_.alloc _
 refine head_l rfl ?_
 go_wp2_with (go_at_call 54;go_must (refine(dmembers_any gr P Q G H k _ _ 2 2 [a,b] (HG.out.ext (hED.trans hX1)) (NTwo.mk 34 (h0.ext hED) (h1.ext hED)).natL rfl (by omega) (fun i hi=>by match i,hi with | 0,_=>exact hFa | 1,_=>exact hFb) hP hQ hk (by omega)).mono ?_);rw[Hall.out];rintro e w1 ⟨rfl,hU1⟩;replace hU1:=hX1.trans hU1)
 refine kx_ hU1 ?_
 repeat (refine hq_ rfl fun K k=>?_;go_simp;refine k.out _ ?_;clear k K)
 refine head_l rfl ?_
 go_wp2_with (go_at_call 16;go_must (refine(gField_any gr P Q G H _ (HG.out.ext (hED.trans hU1))).mono ?_);rintro e w2 ⟨gq,rfl,hRq,rfl⟩)
 refine kx_ hU1 ?_
 repeat (refine hq_ rfl fun K k=>?_;go_simp;refine k.out _ ?_;clear k K)
 refine head_l rfl ?_
 go_wp2_with (go_at_call 17;go_must (refine(mmod_any gq Q _ hRq).mono ?_);rintro e w3 ⟨A5,l5,c5,rfl,hV5,hU3⟩;replace hU3:=hU1.trans hU3)
 refine kx_ hU3 ?_
 repeat (refine hq_ rfl fun K k=>?_;go_simp;refine k.out _ ?_;clear k K)
 refine head_l rfl ?_
 go_wp2_with (go_at_call 15;go_must (refine(cmp_any _ _ x Q k _ (h2.ext (hED.trans hU3)) hV5 hFx hQ (by omega)).mono ?_);rw[cmpI_lt hxQ];rintro e w4 ⟨rfl,hU4⟩;replace hU4:=hU3.trans hU4)
 refine kx_ hU4 ?_
 repeat (refine hq_ rfl fun K k=>?_;go_simp;refine k.out _ ?_;clear k K)
 have hX4:=hXd.trans hU4
 have b6':=b6.ext hX4
 have b7':=b7.ext hX4
 have b8':=b8.ext hX4
 have b10':=b10.ext hX4
 have hE4:=hE.trans hX4
 clear y0 y1 y2 hU1 hU3 hU4 hX1 hX4 hXd hED hV5 hRq b6 b7 b8 b10 hE
 refine head_nil ?_
 try simp only[dS_,dZ_]
 go_wp2_with fail
 refine(gField_any gr P Q G H _ (HG.out.ext hE4)).mono ?_
 rintro e w5 ⟨gq,rfl,hRq,rfl⟩
 go_wp2_with fail
 refine name_w (fun Y hY=>?_)
 subst hY
 have hFy:Fit k (a^x % P):=hP.le (Nat.le_of_lt (Nat.mod_lt _ (by omega)))
 have hFz:Fit k (b^x % P):=hP.le (Nat.le_of_lt (Nat.mod_lt _ (by omega)))
 obtain⟨yn,hyn⟩:∃y,y=a^x % P:=⟨_,rfl⟩
 obtain⟨zn,hzn⟩:∃y,y=b^x % P:=⟨_,rfl⟩
 rw[←hyn]at hFy
 rw[←hzn]at hFz
 have Hyn:=hide hyn
 have Hzn:=hide hzn
 have q6:=b6'.cell
 have q7:=b7'.cell
 have q8:=b8'.cell
 clear hyn hzn
 refine wp_region_mono 12 (fun i=>([MF.eq (.agg #[.slice A0 l0 c0]),MF.eq (.agg #[.slice A1 l1 c1]),MF.eq (.pointer (some ⟨gr,0,none⟩)),MF.eq (.agg #[.slice A0 l0 c0]),MF.eq (.agg #[.slice A2 l2 c2]),natMM (yn),MF.eq (.pointer (some ⟨gr,0,none⟩)),MF.eq (.agg #[.slice A1 l1 c1]),MF.eq (.agg #[.slice A2 l2 c2]),natMM (zn),clM (.slice A0 l0 c0) (.slice A1 l1 c1) yn zn,blk4M Y.heap.size 37]:List MF).getD i (MF.eq undef)) (by kernel_rfl) (by kernel_rfl) ?_ ?_
 · intro i hi
   match i,hi with
   | 0,_=>
     intro u wx o ho hE hw
     injection (ho:some _=some o)with ho
     subst ho
     have hEx:Ext Y wx:=hE.undrew
     simp only[fr,dstOf]
     go_simp
     have cx:=hEx.cellv q6
     go_wp2
     first | exact uR_ | exact⟨trivial,uR_⟩ | exact⟨_,rfl,uR_,rfl⟩ | exact⟨uR_,rfl⟩
   | 1,_=>
     intro u wx o ho hE hw
     injection (ho:some _=some o)with ho
     subst ho
     have hEx:Ext Y wx:=hE.undrew
     simp only[fr,dstOf]
     go_simp
     have cx:=hEx.cellv q7
     go_wp2
     first | exact uR_ | exact⟨trivial,uR_⟩ | exact⟨_,rfl,uR_,rfl⟩ | exact⟨uR_,rfl⟩
   | 2,_=>
     intro u wx o ho hE hw
     injection (ho:some _=some o)with ho
     subst ho
     have hEx:Ext Y wx:=hE.undrew
     simp only[fr,dstOf]
     go_simp
     go_wp2
     first | exact uR_ | exact⟨_,rfl,uR_,rfl⟩ | exact⟨uR_,rfl⟩
   | 3,_=>
     intro u wx o ho hE hw
     injection (ho:some _=some o)with ho
     subst ho
     have hEx:Ext Y wx:=hE.undrew
     simp only[fr,dstOf]
     go_simp
     have cx:=hEx.cellv q6
     go_wp2
     first | exact uR_ | exact⟨trivial,uR_⟩ | exact⟨_,rfl,uR_,rfl⟩ | exact⟨uR_,rfl⟩
   | 4,_=>
     intro u wx o ho hE hw
     injection (ho:some _=some o)with ho
     subst ho
     have hEx:Ext Y wx:=hE.undrew
     simp only[fr,dstOf]
     go_simp
     have cx:=hEx.cellv q8
     go_wp2
     first | exact uR_ | exact⟨trivial,uR_⟩ | exact⟨_,rfl,uR_,rfl⟩ | exact⟨uR_,rfl⟩
   | 5,_=>
     intro u wx o ho hE hw
     injection (ho:some _=some o)with ho
     subst ho
     have hEx:Ext Y wx:=hE.undrew
     have f2:u 2=.pointer (some ⟨gr,0,none⟩):=hw 2 (by omega) (by kernel_rfl)
     have f3:u 3=.agg #[.slice A0 l0 c0]:=hw 3 (by omega) (by kernel_rfl)
     have f4:u 4=.agg #[.slice A2 l2 c2]:=hw 4 (by omega) (by kernel_rfl)
     simp only[fr,dstOf]
     go_simp
     go_wp2_with fail
     refine(gExp_any gr P Q G H k _ _ _ a x k (HG.out.ext (hE4.trans hEx)) (h0.ext (hE4.trans hEx)) (h2.ext (hE4.trans hEx)) hFa hP hFx hk hk).mono ?_
     rintro e wn ⟨A9,l9,c9,rfl,hVn,hU⟩
     go_wp2_with fail
     first | exact⟨_,rfl,hU,natMM_mk ⟨_,_,_,rfl,by rw[Hyn.out];exact hVn⟩⟩ | exact⟨hU,natMM_mk ⟨_,_,_,rfl,by rw[Hyn.out];exact hVn⟩⟩
   | 6,_=>
     intro u wx o ho hE hw
     injection (ho:some _=some o)with ho
     subst ho
     have hEx:Ext Y wx:=hE.undrew
     simp only[fr,dstOf]
     go_simp
     go_wp2
     first | exact uR_ | exact⟨_,rfl,uR_,rfl⟩ | exact⟨uR_,rfl⟩
   | 7,_=>
     intro u wx o ho hE hw
     injection (ho:some _=some o)with ho
     subst ho
     have hEx:Ext Y wx:=hE.undrew
     simp only[fr,dstOf]
     go_simp
     have cx:=hEx.cellv q7
     go_wp2
     first | exact uR_ | exact⟨trivial,uR_⟩ | exact⟨_,rfl,uR_,rfl⟩ | exact⟨uR_,rfl⟩
   | 8,_=>
     intro u wx o ho hE hw
     injection (ho:some _=some o)with ho
     subst ho
     have hEx:Ext Y wx:=hE.undrew
     simp only[fr,dstOf]
     go_simp
     have cx:=hEx.cellv q8
     go_wp2
     first | exact uR_ | exact⟨trivial,uR_⟩ | exact⟨_,rfl,uR_,rfl⟩ | exact⟨uR_,rfl⟩
   | 9,_=>
     intro u wx o ho hE hw
     injection (ho:some _=some o)with ho
     subst ho
     have hEx:Ext Y wx:=hE.undrew
     have f6:u 6=.pointer (some ⟨gr,0,none⟩):=hw 6 (by omega) (by kernel_rfl)
     have f7:u 7=.agg #[.slice A1 l1 c1]:=hw 7 (by omega) (by kernel_rfl)
     have f8:u 8=.agg #[.slice A2 l2 c2]:=hw 8 (by omega) (by kernel_rfl)
     simp only[fr,dstOf]
     go_simp
     go_wp2_with fail
     refine(gExp_any gr P Q G H k _ _ _ b x k (HG.out.ext (hE4.trans hEx)) (h1.ext (hE4.trans hEx)) (h2.ext (hE4.trans hEx)) hFb hP hFx hk hk).mono ?_
     rintro e wn ⟨A9,l9,c9,rfl,hVn,hU⟩
     go_wp2_with fail
     first | exact⟨_,rfl,hU,natMM_mk ⟨_,_,_,rfl,by rw[Hzn.out];exact hVn⟩⟩ | exact⟨hU,natMM_mk ⟨_,_,_,rfl,by rw[Hzn.out];exact hVn⟩⟩
   | 10,_=>
     intro u wx o ho hE hw
     injection (ho:some _=some o)with ho
     subst ho
     have hEx:Ext Y wx:=hE.undrew
     have f0:u 0=.agg #[.slice A0 l0 c0]:=hw 0 (by omega) (by kernel_rfl)
     have f1:u 1=.agg #[.slice A1 l1 c1]:=hw 1 (by omega) (by kernel_rfl)
     obtain⟨aA5,aL5,aC5,f5,hV5⟩:=natMM_out (hw 5 (by omega) (by kernel_rfl))
     obtain⟨aA9,aL9,aC9,f9,hV9⟩:=natMM_out (hw 9 (by omega) (by kernel_rfl))
     simp only[fr,dstOf]
     go_simp
     go_wp2
     first | exact⟨_,rfl,uR_,clM_mk ⟨_,_,_,_,_,_,rfl,hV5,hV9⟩⟩ | exact⟨uR_,clM_mk ⟨_,_,_,_,_,_,rfl,hV5,hV9⟩⟩
   | 11,_=>
     intro u wx o ho hE hw
     injection (ho:some _=some o)with ho
     subst ho
     have hEx:Ext Y wx:=hE.undrew
     simp only[fr,dstOf]
     go_simp
     go_wp2
     first | exact⟨_,rfl,uR_.alloc _,blk4M_mk ⟨_,rfl,hEx.size,Blk.new _ _ _⟩⟩ | exact⟨uR_.alloc _,blk4M_mk ⟨_,rfl,hEx.size,Blk.new _ _ _⟩⟩
   | k+12,h=>exact absurd h (by omega)
 · intro u wx hE hJ
   have hEx:Ext Y wx:=hE.undrew
   have f0:u 0=.agg #[.slice A0 l0 c0]:=hJ 0 (by omega)
   have f1:u 1=.agg #[.slice A1 l1 c1]:=hJ 1 (by omega)
   have f2:u 2=.pointer (some ⟨gr,0,none⟩):=hJ 2 (by omega)
   have f3:u 3=.agg #[.slice A0 l0 c0]:=hJ 3 (by omega)
   have f4:u 4=.agg #[.slice A2 l2 c2]:=hJ 4 (by omega)
   obtain⟨aA5,aL5,aC5,f5,hV5⟩:=natMM_out (hJ 5 (by omega))
   have f6:u 6=.pointer (some ⟨gr,0,none⟩):=hJ 6 (by omega)
   have f7:u 7=.agg #[.slice A1 l1 c1]:=hJ 7 (by omega)
   have f8:u 8=.agg #[.slice A2 l2 c2]:=hJ 8 (by omega)
   obtain⟨aA9,aL9,aC9,f9,hV9⟩:=natMM_out (hJ 9 (by omega))
   obtain⟨aA10,aL10,aC10,aB10,aM10,aD10,f10,hV10,hW10⟩:=clM_out (hJ 10 (by omega))
   obtain⟨g11,f11,hg11,hb11⟩:=blk4M_out (hJ 11 (by omega))
   clear hJ
   simp only[fr,dstOf]
   go_simp
   try simp only[dS_,dZ_]
   have y0:=hb11.at 0 rfl
   have y1:=hb11.at 1 rfl
   have y2:=hb11.at 2 rfl
   have y3:=hb11.at 3 rfl
   have x0:=hb11.frozen 0
   have x1:=hb11.frozen 1
   have x2:=hb11.frozen 2
   have x3:=hb11.frozen 3
   have hB4:=blk4 hb11 (.slice A0 l0 c0) (.slice A1 l1 c1) (.slice aA10 aL10 aC10) (.slice aB10 aM10 aD10)
   have hVy:=nat4 (b0:=A0) (m0:=l0) (d0:=c0) (b1:=A1) (m1:=l1) (d1:=c1) (b2:=aA10) (m2:=aL10) (d2:=aC10) (b3:=aB10) (m3:=aM10) (d3:=aD10) hV10 hb11
   have hVz:=nat4 (b0:=A0) (m0:=l0) (d0:=c0) (b1:=A1) (m1:=l1) (d1:=c1) (b2:=aA10) (m2:=aL10) (d2:=aC10) (b3:=aB10) (m3:=aM10) (d3:=aD10) hW10 hb11
   have hEs:=ext4 hEx hg11 (.slice A0 l0 c0) (.slice A1 l1 c1) (.slice aA10 aL10 aC10) (.slice aB10 aM10 aD10)
   go_wp2_with fail
   refine name_w (fun V hV=>?_)
   rw[←hV]at hB4 hVy hVz hEs
   clear hV hV10 hW10 hb11 hEx hg11 y0 y1 y2 y3 x0 x1 x2 x3 q6 q7 q8
   have b6:=b6'.ext hEs
   have b7:=b7'.ext hEs
   have b8:=b8'.ext hEs
   have b10:=b10'.ext hEs
   have hRv:=hRq.ext hEs
   have hEV:=hE4.trans hEs
   clear b6' b7' b8' b10' hRq hE4 hEs
   have q1:=fun y:Wd (Ext V.drew)=>y.ok.cellv b8.drew.cell
   have hED:Ext w V.drew:=hEV.drew
   refine wp_region_plan (Ext _) 8 [(false,0),(false,1),(true,2),(true,3),(false,4),(false,5),(false,6),(false,7)] (by kernel_rfl) (by kernel_rfl) (uR_) (fun hne=>?_)
   repeat (refine hq_ rfl fun K k=>?_;go_simp;refine k.out _ ?_;clear k K)
   refine head_l rfl ?_
   go_wp2_with (go_at_call 56;go_must (refine(dwidth_any gr P Q G H k _ (HG.out.ext hED) hQ (by omega)).mono ?_);rw[←Hz.out];rintro e w9 ⟨rfl,hU9⟩)
   refine kx_ hU9 ?_
   repeat (refine hq_ rfl fun K k=>?_;go_simp;refine k.out _ ?_;clear k K)
   refine head_l rfl ?_
   go_wp2_with (go_at_call 55;go_must (refine(bytes_any _ x k z _ (h2.ext (hED.trans hU9)) hFx (by omega) hbx (by omega)).mono ?_);rintro e w10 ⟨A10,c10,rfl,hl10,hO10,hU10⟩;replace hU10:=hU9.trans hU10)
   refine kx_ hU10 ?_
   repeat (refine hq_ rfl fun K k=>?_;go_simp;refine k.out _ ?_;clear k K)
   have hX1:=hU10.undrew
   have hpk:=Own.pt hO10 hl10
   have Hpk:=hide hpk
   clear q1 hU9 hU10 hED hO10 hl10 hpk
   refine head_nil ?_
   try simp only[dS_,dZ_]
   have q6:=(b6.ext hX1).cell
   go_wp2_with fail
   clear q6
   refine(gBytes_any gr P Q G H k _ _ a (HG.out.ext (hEV.trans hX1)) (h0.ext (hEV.trans hX1)) hFa hP hQ hk (by omega)).mono ?_
   rintro e w11 ⟨Aa,la,ca,rfl,hla,hla1,hla2,hSa, -,hU11⟩
   have hX2:=hX1.trans hU11
   have q7:=(b7.ext hX2).cell
   go_wp2_with fail
   clear q7
   refine(gBytes_any gr P Q G H k _ _ b (HG.out.ext (hEV.trans hX2)) (h1.ext (hEV.trans hX2)) hFb hP hQ hk (by omega)).mono ?_
   rintro e w12 ⟨Ab,lb,cb,rfl,hlb,hlb1,hlb2,hSb, -,hU12⟩
   have hX3:=hX2.trans hU12
   have hUk:=hU11.trans hU12
   have hka:0<la:=by
    have h9:=byteSz_pos2 hP2
    rw[←hla]
    unfold memBy
    rw[if_pos Ha.out,toB_length]
    exact h9
   have hnb:la≤200000∧lb≤200000:=by
    have m0:=memBy_len P Q a
    have m1:=memBy_len P Q b
    omega
   obtain⟨N1,hN1⟩:∃N1,N1=4+la:=⟨_,rfl⟩
   obtain⟨N2,hN2⟩:∃N2,N2=N1+lb:=⟨_,rfl⟩
   obtain⟨N3,hN3⟩:∃N3,N3=N2+n:=⟨_,rfl⟩
   have hM1:(dlqB++memBy P Q a).length=N1:=by rw[List.length_append,hla,hN1];rfl
   have hM2:(dlqB++memBy P Q a++memBy P Q b).length=N2:=by rw[List.length_append,hM1,hlb,hN2]
   have hM3:(dInfo P Q a b side).length=N3:=by unfold dInfo;rw[List.length_append,hM2,HM.out.2.1,hN3]
   have HM1:=hide hM1
   have HM2:=hide hM2
   have HM3:=hide hM3
   have Hla:=hide hla
   have Hlb:=hide hlb
   have Hsl:=hide HM.out.2.1
   have HSa:=hide (hSa.ext hU12)
   have HSb:=hide hSb
   have HSs:=hide (HM.out.1.ext (hEV.trans hX3))
   have hN1s:N1≤1000000:=by omega
   have hN2s:N2≤1000000:=by omega
   have hN3s:N3≤1000000:=by omega
   have hS4:dlqB.length=4:=rfl
   have HS4:=hide hS4
   clear hla1 hla2 hSa hlb1 hlb2 hSb hU11 hU12 hX1 hX2 hnb hN1 hN2 hN3 hM1 hM2 hM3 hla hlb hS4
   go_wp2_with (first | (at_builtin;refine name_l2 (fun W2 hW2=>?_);have h12:Ext w12 W2:=(by rw[hW2];exact uR_.alloc _);have hSl2:Sl by8 W2 (some ⟨w12.heap.size,0,none⟩) dlqB:=(by rw[hW2];exact Sl.mark by8 w12 5 (4,5) dlqB);clear hW2;refine wpList_apn by8 one8 Tryz.el8 dlqB (memBy P Q a) (dlqB++memBy P Q a) N1 rfl HM1.out (by omega) (by unfold maxLen;omega) rfl rfl rfl HS4.out hSl2 rfl Hla.out (HSa.out.ext h12) hka ?_;intro A15 c15 w15 hO15 hU15;have h15:=h12.trans hU15) | (at_builtin;refine wpList_apd by8 one8 Tryz.el8 (dlqB++memBy P Q a) (memBy P Q b) (dlqB++memBy P Q a++memBy P Q b) N2 rfl HM2.out (by omega) (by unfold maxLen;omega) rfl rfl rfl HM1.out hO15 rfl Hlb.out (HSb.out.ext h15) hU15.size ?_;intro A16 c16 w16 hO16 hU16 hin16;have h16:=upd_new hU16 h15 (fun q hq=>Nat.le_trans h12.size (hO15.in_ hq).1)) | (at_builtin;go_must (refine wpList_apd by8 one8 Tryz.el8 (dlqB++memBy P Q a++memBy P Q b) side (dInfo P Q a b side) N3 rfl HM3.out (by omega) (by unfold maxLen;omega) rfl rfl rfl HM2.out hO16 rfl Hsl.out (HSs.out.ext h16) (Nat.le_trans hU15.size hU16.size) ?_);intro A17 c17 w17 hO17 hU17 hin17;have h17:=upd_new hU17 h16 (fun q hq=>Nat.le_trans h12.size (hO16.in_ hq).1)))
   have hX4:=hX3.trans h17
   have h5:=Own.pt hO17 HM3.out
   have H5:=hide h5
   have hks:=Hpk.out.2.2.2.ext (hUk.trans h17)
   clear h12 hO15 hU15 h15 hO16 hU16 hin16 h16 hO17 hU17 hin17 h17 h5 hX3 hUk HSa HSb HSs HM1 HM2 hka hN1s hN2s
   refine(expand_any A10 z c10 (toB x z) A17 N3 c17 (dInfo P Q a b side) 64 _ hks Hpk.out.1 Hpk.out.2.1 Hpk.out.2.2.1 (by omega) H5.out.2.2.2 H5.out.1 H5.out.2.1 H5.out.2.2.1 hN3s (by omega)).mono ?_
   rintro e w18 ⟨A18,c18,rfl,hO18,hU18⟩
   have hX5:=hX4.trans hU18
   have hS18:=hO18.sl
   have hel:=Mac.expand_length (toB x z) (dInfo P Q a b side) 64
   obtain⟨dr,hdr⟩:∃dr,dr=ofB (Mac.expand (toB x z) (dInfo P Q a b side) 64):=⟨_,rfl⟩
   have hFd:Fit k dr:=by rw[hdr];exact fit_bs128 (n:=64) (by omega) (by omega)
   have Hdr:Hid (dr % Q=drawN Q x (dInfo P Q a b side)):=hide (by rw[hdr];unfold drawN;rw[←Hz.out])
   have Hd0:=hide hdr
   have Hel:=hide hel
   clear hks hO18 hU18 hX4 hdr hel
   go_wp2_with fail
   refine(from_any A18 64 c18 _ _ Hel.out (by omega) hS18).mono ?_
   rw[←Hd0.out]
   rintro e w19 ⟨A19,l19,c19,rfl,hV19,hU19⟩
   have q24:=(Box.new w19 34 (.slice A19 l19 c19)).cell
   go_wp2_with fail
   clear q24
   refine name_c (fun W6 hW6=>?_)
   have hX6:Ext V W6:=by rw[hW6];exact(hX5.trans hU19).alloc _
   have hVd:NatV W6 (.agg #[.slice A19 l19 c19]) dr:=by rw[hW6];exact hV19.ext (uR_.alloc _)
   clear hW6 hV19 hU19 hX5 hS18
   refine(mof_any _ gq dr Q k W6 (hRv.ext hX6) hVd hFd hQ (by omega)).mono ?_
   rw[Hdr.out]
   rintro e w20 ⟨A20,l20,c20,rfl,hV20,hU20⟩
   obtain⟨d,hd⟩:∃d,d=drawN Q x (dInfo P Q a b side):=⟨_,rfl⟩
   have hdF:Fit k d:=by rw[hd,←Hdr.out];exact hQ.le (Nat.le_of_lt (Nat.mod_lt _ (by omega)))
   rw[←hd]at hV20
   have Hd:=hide hd
   have q26:=(Box.new w20 34 (.slice A20 l20 c20)).cell
   clear hVd hFd hd
   go_wp2_with fail
   clear q26
   refine name_c (fun V0 hV0=>?_)
   have hX7:Ext V V0:=by rw[hV0];exact(hX6.trans hU20).alloc _
   have b26o:Box V0 w20.heap.size 34 (.slice A20 l20 c20):=by rw[hV0];exact Box.new _ _ _
   have hVd:NatV V0 (.agg #[.slice A20 l20 c20]) d:=by rw[hV0];exact hV20.ext (uR_.alloc _)
   have hVs:V.heap.size≤w20.heap.size:=(hX6.trans hU20).size
   clear hV0 hV20 hU20 hX6
   refine(zero_any _ d _ hVd).mono ?_
   rintro e w21 ⟨rfl,hU21⟩
   obtain⟨zb,hzb⟩:∃zb,zb=decide (d=0):=⟨_,rfl⟩
   rw[←hzb]
   have Hzb:=hide hzb
   have hX21:=hX7.trans hU21
   clear hzb
   go_upto_if 106 with fail
   go_cut [] (fun wx=>∃(AK:Option Addr) (lK cK:Nat),Box wx w20.heap.size 34 (.slice AK lK cK)∧NatV wx (.agg #[.slice AK lK cK]) (pvK P Q a b x side)∧Ext V wx)
   case first=>
    cases zb with
    | true=>
      have hd0:d=0:=of_decide_eq_true Hzb.out.symm
      go_wp2_with fail
      refine(new_any 1 _ (by decide)).mono ?_
      rintro e w22 ⟨AK,lK,cK,rfl,hV22,hU22⟩
      have b26q:=b26o.ext (hU21.trans hU22)
      have z2:=b26q.cell
      have z3:=b26q.frozen
      have b26:=b26q.set (.slice AK lK cK)
      have hV23:NatV w22 (.agg #[.slice AK lK cK]) (pvK P Q a b x side):=by unfold pvK sgnK nz1;rw[←Hd.out,if_pos hd0];exact hV22
      have hVK:=hV23.far (v:=.slice AK lK cK) z2
      have hX:Ext V (w22.setCell ⟨w20.heap.size,0,none⟩ (.slice AK lK cK)):=(hX21.trans hU22).setCell (p:=⟨w20.heap.size,0,none⟩) (.inr hVs) _
      clear hd0
      go_wp2_with fail
      go_meet
      exact⟨AK,lK,cK,b26,hVK,hX⟩
    | false=>
      have hd0:¬d=0:=of_decide_eq_false Hzb.out.symm
      have hVK:NatV w21 (.agg #[.slice A20 l20 c20]) (pvK P Q a b x side):=by unfold pvK sgnK nz1;rw[←Hd.out,if_neg hd0];exact hVd.ext hU21
      clear hd0
      go_wp2_with fail
      go_meet
      exact⟨A20,l20,c20,b26o.ext hU21,hVK,hX21⟩
   case rest=>
    obtain⟨AK,lK,cK,b26,hVK,hX⟩:=hcut
    obtain⟨kk,hkk⟩:∃kk,kk=pvK P Q a b x side:=⟨_,rfl⟩
    rw[←hkk]at hVK
    have hFk:Fit k kk:=by
     rw[hkk];unfold pvK sgnK nz1;rw[←Hd.out]
     by_cases hd0:d=0
     · rw[if_pos hd0];exact Fit.mono (by unfold Fit;decide) (show 1≤k by omega)
     · rw[if_neg hd0];exact hdF
    have HK:=hide hkk
    clear b26o hVd hU21 hX7 hX21 hkk hVs hdF Hzb
    go_wp2_with fail
    refine name_w (fun X hX0=>?_)
    subst hX0
    have hEX:=hEV.trans hX
    have b6x:=b6.ext hX
    have b7x:=b7.ext hX
    have b8x:=b8.ext hX
    have b10x:=b10.ext hX
    have hB4x:=hB4.ext hX
    have hVyx:=hVy.ext hX
    have hVzx:=hVz.ext hX
    have hRx:=hRv.ext hX
    clear b6 b7 b8 b10 hB4 hVy hVz hRv hEV hX
    have y0:=hB4x.at 0 rfl
    have y1:=hB4x.at 1 rfl
    have y2:=hB4x.at 2 rfl
    have y3:=hB4x.at 3 rfl
    obtain⟨un,hun⟩:∃y,y=a^kk % P:=⟨_,rfl⟩
    obtain⟨vn,hvn⟩:∃y,y=b^kk % P:=⟨_,rfl⟩
    have hFu:Fit k un:=by rw[hun];exact hP.le (Nat.le_of_lt (Nat.mod_lt _ (by omega)))
    have hFv:Fit k vn:=by rw[hvn];exact hP.le (Nat.le_of_lt (Nat.mod_lt _ (by omega)))
    have Hun:=hide hun
    have Hvn:=hide hvn
    clear hun hvn
    have hFall:∀x∈[a,b,yn,zn,un,vn],Fit k x:=by
     intro x hx
     simp only[List.mem_cons,List.mem_nil_iff,or_false]at hx
     rcases hx with rfl | rfl | rfl | rfl | rfl | rfl
     · exact hFa
     · exact hFb
     · exact hFy
     · exact hFz
     · exact hFu
     · exact hFv
    have HFall:=hide hFall
    obtain⟨cc,hcc⟩:∃cc,cc=ansN P Q [a,b,yn,zn,un,vn] side:=⟨_,rfl⟩
    have hcQ:cc<Q:=by rw[hcc];exact ansN_lt (by omega)
    have HC:Hid (cc=pvC P Q a b x side):=hide (by rw[hcc,Hun.out,Hvn.out,Hyn.out,Hzn.out,HK.out];rfl)
    have Hcc:=hide hcc
    clear hFall hcc
    refine wp_region_fg 13 [.val (.eq (.pointer (some ⟨gr,0,none⟩))),.val (.eq (.agg #[.slice A0 l0 c0,.slice A1 l1 c1,.slice aA10 aL10 aC10,.slice aB10 aM10 aD10])),.val (.eq (.pointer (some ⟨gr,0,none⟩))),.val (.eq (.agg #[.slice A0 l0 c0])),.val (.eq (.agg #[.slice AK lK cK])),.val (.p (natP (un))),.val (.eq (.pointer (some ⟨gr,0,none⟩))),.val (.eq (.agg #[.slice A1 l1 c1])),.val (.eq (.agg #[.slice AK lK cK])),.val (.p (natP (vn))),.val (.eq (.slice AS n c)),.val (.p (natP (cc))),.new 34 (.slice none 0 0)] [] (by kernel_rfl) rfl (by kernel_rfl) (by kernel_rfl) (by kernel_rfl) ?_ ?_
    · intro i hi
      match i,hi with
      | 0,_=>
        intro u wx S o ho hE hr hd hw
        injection (ho:some _=some o)with ho
        subst ho
        have hEx:Ext X wx:=hE.undrew
        simp only[fr,dstOf]
        go_simp
        go_wp2
        first | exact⟨uR_,rfl⟩ | exact⟨_,rfl,uR_,rfl⟩
      | 1,_=>
        intro u wx S o ho hE hr hd hw
        injection (ho:some _=some o)with ho
        subst ho
        have hEx:Ext X wx:=hE.undrew
        have cx0:=hEx.cellv y0;have cx1:=hEx.cellv y1;have cx2:=hEx.cellv y2;have cx3:=hEx.cellv y3
        simp only[fr,dstOf]
        go_simp
        go_wp2
        first | exact⟨uR_,rfl⟩ | exact⟨_,rfl,uR_,rfl⟩
      | 2,_=>
        intro u wx S o ho hE hr hd hw
        injection (ho:some _=some o)with ho
        subst ho
        have hEx:Ext X wx:=hE.undrew
        simp only[fr,dstOf]
        go_simp
        go_wp2
        first | exact⟨uR_,rfl⟩ | exact⟨_,rfl,uR_,rfl⟩
      | 3,_=>
        intro u wx S o ho hE hr hd hw
        injection (ho:some _=some o)with ho
        subst ho
        have hEx:Ext X wx:=hE.undrew
        have cx:=(b6x.ext hEx).cell
        simp only[fr,dstOf]
        go_simp
        go_wp2
        first | exact⟨uR_,rfl⟩ | exact⟨_,rfl,uR_,rfl⟩
      | 4,_=>
        intro u wx S o ho hE hr hd hw
        injection (ho:some _=some o)with ho
        subst ho
        have hEx:Ext X wx:=hE.undrew
        have cx:=(b26.ext hEx).cell
        simp only[fr,dstOf]
        go_simp
        go_wp2
        first | exact⟨uR_,rfl⟩ | exact⟨_,rfl,uR_,rfl⟩
      | 5,_=>
        intro u wx S o ho hE hr hd hw
        injection (ho:some _=some o)with ho
        subst ho
        have hEx:Ext X wx:=hE.undrew
        have f2:u 2=.pointer (some ⟨gr,0,none⟩):=hw 2 (by omega) (by kernel_rfl) (by simp)
        have f3:u 3=.agg #[.slice A0 l0 c0]:=hw 3 (by omega) (by kernel_rfl) (by simp)
        have f4:u 4=.agg #[.slice AK lK cK]:=hw 4 (by omega) (by kernel_rfl) (by simp)
        simp only[fr,dstOf]
        go_simp
        go_wp2_with fail
        refine(gExp_any gr P Q G H k _ _ _ a kk k (HG.out.ext (hEX.trans hEx)) (h0.ext (hEX.trans hEx)) (hVK.ext hEx) hFa hP hFk hk hk).mono ?_
        rintro e wn ⟨A9,l9,c9,rfl,hVn,hU⟩
        go_wp2_with fail
        first | exact⟨_,rfl,hU.mono (fun _ _ h=>h.elim),_,_,_,rfl,(by rw[Hun.out];exact hVn)⟩ | exact⟨hU.mono (fun _ _ h=>h.elim),_,_,_,rfl,(by rw[Hun.out];exact hVn)⟩
      | 6,_=>
        intro u wx S o ho hE hr hd hw
        injection (ho:some _=some o)with ho
        subst ho
        have hEx:Ext X wx:=hE.undrew
        simp only[fr,dstOf]
        go_simp
        go_wp2
        first | exact⟨uR_,rfl⟩ | exact⟨_,rfl,uR_,rfl⟩
      | 7,_=>
        intro u wx S o ho hE hr hd hw
        injection (ho:some _=some o)with ho
        subst ho
        have hEx:Ext X wx:=hE.undrew
        have cx:=(b7x.ext hEx).cell
        simp only[fr,dstOf]
        go_simp
        go_wp2
        first | exact⟨uR_,rfl⟩ | exact⟨_,rfl,uR_,rfl⟩
      | 8,_=>
        intro u wx S o ho hE hr hd hw
        injection (ho:some _=some o)with ho
        subst ho
        have hEx:Ext X wx:=hE.undrew
        have cx:=(b26.ext hEx).cell
        simp only[fr,dstOf]
        go_simp
        go_wp2
        first | exact⟨uR_,rfl⟩ | exact⟨_,rfl,uR_,rfl⟩
      | 9,_=>
        intro u wx S o ho hE hr hd hw
        injection (ho:some _=some o)with ho
        subst ho
        have hEx:Ext X wx:=hE.undrew
        have f6:u 6=.pointer (some ⟨gr,0,none⟩):=hw 6 (by omega) (by kernel_rfl) (by simp)
        have f7:u 7=.agg #[.slice A1 l1 c1]:=hw 7 (by omega) (by kernel_rfl) (by simp)
        have f8:u 8=.agg #[.slice AK lK cK]:=hw 8 (by omega) (by kernel_rfl) (by simp)
        simp only[fr,dstOf]
        go_simp
        go_wp2_with fail
        refine(gExp_any gr P Q G H k _ _ _ b kk k (HG.out.ext (hEX.trans hEx)) (h1.ext (hEX.trans hEx)) (hVK.ext hEx) hFb hP hFk hk hk).mono ?_
        rintro e wn ⟨A9,l9,c9,rfl,hVn,hU⟩
        go_wp2_with fail
        first | exact⟨_,rfl,hU.mono (fun _ _ h=>h.elim),_,_,_,rfl,(by rw[Hvn.out];exact hVn)⟩ | exact⟨hU.mono (fun _ _ h=>h.elim),_,_,_,rfl,(by rw[Hvn.out];exact hVn)⟩
      | 10,_=>
        intro u wx S o ho hE hr hd hw
        injection (ho:some _=some o)with ho
        subst ho
        have hEx:Ext X wx:=hE.undrew
        simp only[fr,dstOf]
        go_simp
        go_wp2
        first | exact⟨uR_,rfl⟩ | exact⟨_,rfl,uR_,rfl⟩
      | 11,_=>
        intro u wx S o ho hE hr hd hw
        injection (ho:some _=some o)with ho
        subst ho
        have hEx:Ext X wx:=hE.undrew
        have f0:u 0=.pointer (some ⟨gr,0,none⟩):=hw 0 (by omega) (by kernel_rfl) (by simp)
        have f1:u 1=.agg #[.slice A0 l0 c0,.slice A1 l1 c1,.slice aA10 aL10 aC10,.slice aB10 aM10 aD10]:=hw 1 (by omega) (by kernel_rfl) (by simp)
        obtain⟨aA5,aL5,aC5,f5,hV5⟩:FG.J 5 (.val (.p (natP (un)))) u wx (S 5):=hw 5 (by omega) (by kernel_rfl) (by simp)
        obtain⟨aA9,aL9,aC9,f9,hV9⟩:FG.J 9 (.val (.p (natP (vn)))) u wx (S 9):=hw 9 (by omega) (by kernel_rfl) (by simp)
        have f10:u 10=.slice AS n c:=hw 10 (by omega) (by kernel_rfl) (by simp)
        simp only[fr,dstOf]
        go_simp
        go_wp2_with fail
        refine(dans_any gr P Q G H k _ A0 A1 aA10 aB10 _ _ AS l0 c0 l1 c1 aL10 aC10 aM10 aD10 _ _ _ _ n c a b yn zn un vn side (HG.out.ext (hEX.trans hEx)) (h0.ext (hEX.trans hEx)) (h1.ext (hEX.trans hEx)) (hVyx.ext hEx) (hVzx.ext hEx) hV5 hV9 (HM.out.ext (hEX.trans hEx)) HFall.out hP hQ hk (by omega) (by omega)).mono ?_
        rintro e wn ⟨A9,l9,c9,rfl,hVn,hU⟩
        go_wp2_with fail
        first | exact⟨_,rfl,hU.mono (fun _ _ h=>h.elim),_,_,_,rfl,(by rw[Hcc.out];exact hVn)⟩ | exact⟨hU.mono (fun _ _ h=>h.elim),_,_,_,rfl,(by rw[Hcc.out];exact hVn)⟩
      | 12,_=>
        intro u wx S o ho hE hr hd hw
        injection (ho:some _=some o)with ho
        subst ho
        have hEx:Ext X wx:=hE.undrew
        simp only[fr,dstOf]
        go_simp
        go_wp2
        first | exact⟨uR_.alloc _,wx.heap.size,rfl,Bx.new _ _ _,⟨Nat.le_refl _,by first | exact Nat.lt_succ_self _ | simp⟩,fun b hb=>by first | omega | (simp at hb;omega)⟩ | exact⟨_,rfl,uR_.alloc _,wx.heap.size,rfl,Bx.new _ _ _,⟨Nat.le_refl _,by first | exact Nat.lt_succ_self _ | simp⟩,fun b hb=>by first | omega | (simp at hb;omega)⟩
      | k+13,h=>exact absurd h (by omega)
    · intro u wx S hE hw hrg hdj
      have hEx:Ext X wx:=hE.undrew
      have f0:u 0=.pointer (some ⟨gr,0,none⟩):=hw 0 (by omega) (by simp)
      have f1:u 1=.agg #[.slice A0 l0 c0,.slice A1 l1 c1,.slice aA10 aL10 aC10,.slice aB10 aM10 aD10]:=hw 1 (by omega) (by simp)
      have f2:u 2=.pointer (some ⟨gr,0,none⟩):=hw 2 (by omega) (by simp)
      have f3:u 3=.agg #[.slice A0 l0 c0]:=hw 3 (by omega) (by simp)
      have f4:u 4=.agg #[.slice AK lK cK]:=hw 4 (by omega) (by simp)
      obtain⟨aA5,aL5,aC5,f5,hV5⟩:FG.J 5 (.val (.p (natP (un)))) u wx (S 5):=hw 5 (by omega) (by simp)
      have f6:u 6=.pointer (some ⟨gr,0,none⟩):=hw 6 (by omega) (by simp)
      have f7:u 7=.agg #[.slice A1 l1 c1]:=hw 7 (by omega) (by simp)
      have f8:u 8=.agg #[.slice AK lK cK]:=hw 8 (by omega) (by simp)
      obtain⟨aA9,aL9,aC9,f9,hV9⟩:FG.J 9 (.val (.p (natP (vn)))) u wx (S 9):=hw 9 (by omega) (by simp)
      have f10:u 10=.slice AS n c:=hw 10 (by omega) (by simp)
      obtain⟨aA11,aL11,aC11,f11,hV11⟩:FG.J 11 (.val (.p (natP (cc)))) u wx (S 11):=hw 11 (by omega) (by simp)
      obtain⟨g12,f12,hb12,hs12,hall12⟩:FG.J 12 (.new 34 (.slice none 0 0)) u wx (S 12):=hw 12 (by omega) (by simp)
      simp only[fr,dstOf]
      go_simp
      have cg12:=hb12.cell
      have fg12:=hb12.frozen
      have hXg:X.heap.size≤g12:=(hrg 12 g12 hs12).1
      have hVc:=hV11.far (v:=.slice aA11 aL11 aC11) cg12
      have hEXs:Ext X (wx.setCell ⟨g12,0,none⟩ (.slice aA11 aL11 aC11)):=hEx.setCell (p:=⟨g12,0,none⟩) (.inr hXg) _
      have b27:Box (wx.setCell ⟨g12,0,none⟩ (.slice aA11 aL11 aC11)) g12 34 (.slice aA11 aL11 aC11):=Box.set (Box.bx hb12) _
      have hFc:Fit k cc:=hQ.le (Nat.le_of_lt hcQ)
      have hbc:bytelen cc≤z:=by rw[Hz.out];exact byteSz_mono (Nat.le_of_lt hcQ)
      clear hw hrg hdj hs12 hb12 hV5 hV9 hV11 y0 y1 y2 y3 hFu hFv
      go_wp2_with fail
      refine name_w (fun Y hY=>?_)
      rw[←hY]at hVc hEXs b27
      clear hY cg12 fg12 hXg hEx
      have b8:=b8x.ext hEXs
      have b10:=b10x.ext hEXs
      have b26y:=b26.ext hEXs
      have hB4:=hB4x.ext hEXs
      have hVy:=hVyx.ext hEXs
      have hVz:=hVzx.ext hEXs
      have hR:=hRx.ext hEXs
      have hVKy:=hVK.ext hEXs
      have hEY:=hEX.trans hEXs
      clear hEXs b6x b7x b8x b10x b26 hB4x hVyx hVzx hRx hVK hEX
      have q1:=fun y:Wd (Ext Y.drew)=>y.ok.cellv b27.drew.cell
      have hED:Ext w Y.drew:=hEY.drew
      refine wp_region_plan (Ext _) 8 [(false,0),(false,1),(true,2),(true,3),(false,4),(false,5),(false,6),(false,7)] (by kernel_rfl) (by kernel_rfl) (uR_) (fun hne=>?_)
      repeat (refine hq_ rfl fun K k=>?_;go_simp;refine k.out _ ?_;clear k K)
      refine head_l rfl ?_
      go_wp2_with (go_at_call 56;go_must (refine(dwidth_any gr P Q G H k _ (HG.out.ext hED) hQ (by omega)).mono ?_);rw[←Hz.out];rintro e v1 ⟨rfl,hu1⟩)
      refine kx_ hu1 ?_
      repeat (refine hq_ rfl fun K k=>?_;go_simp;refine k.out _ ?_;clear k K)
      refine head_l rfl ?_
      go_wp2_with (go_at_call 55;go_must (refine(bytes_any _ cc k z _ (hVc.ext (uR_.drew.trans hu1)) hFc (by omega) hbc (by omega)).mono ?_);rintro e v2 ⟨A31,c31,rfl,hl31,hO31,hu2⟩;replace hu2:=hu1.trans hu2)
      refine kx_ hu2 ?_
      repeat (refine hq_ rfl fun K k=>?_;go_simp;refine k.out _ ?_;clear k K)
      have hYw:=hu2.undrew
      have hO31':=hO31.mono (B':=Y.heap.size) (Nat.le_trans (show Ext Y Y.drew from uR_.drew).size hu1.size)
      clear q1 hu1 hu2 hED hO31
      refine head_nil ?_
      try simp only[dS_,dZ_]
      go_wp2_with fail
      refine name_w (fun U hU0=>?_)
      subst hU0
      have hUd:Ext U U.drew:=uR_.drew
      have hYU:=hYw.trans hUd
      have q1:=fun y:Wd (Ext U.drew)=>y.ok.cellv (b26y.ext hYU).cell
      have q2:=fun y:Wd (Ext U.drew)=>y.ok.cellv (b27.ext hYU).cell
      have q3:=fun y:Wd (Ext U.drew)=>y.ok.cellv (b8.ext hYU).cell
      have hED:Ext w U.drew:=hEY.trans hYU
      have hFm:Fit k (cc*x % Q):=hQ.le (Nat.le_of_lt (Nat.mod_lt _ (by omega)))
      have hsQ:(kk+cc*x % Q) % Q<Q:=Nat.mod_lt _ (by omega)
      have hFs:Fit k ((kk+cc*x % Q) % Q):=hQ.le (Nat.le_of_lt hsQ)
      have hbs:bytelen ((kk+cc*x % Q) % Q)≤z:=by rw[Hz.out];exact byteSz_mono (Nat.le_of_lt hsQ)
      obtain⟨ss,hss⟩:∃ss,ss=(kk+cc*x % Q) % Q:=⟨_,rfl⟩
      rw[←hss]at hFs hbs
      have Hss:=hide hss
      clear hss hsQ
      refine wp_region_plan (Ext _) 14 [(false,0),(false,1),(false,2),(false,3),(false,4),(false,7),(true,5),(true,6),(true,8),(true,9),(false,10),(false,11),(false,12),(false,13)] (by kernel_rfl) (by kernel_rfl) (uR_) (fun hne=>?_)
      repeat (refine hq_ rfl fun K k=>?_;go_simp;refine k.out _ ?_;clear k K)
      refine head_l rfl ?_
      go_wp2_with (go_at_call 62;go_must (refine(mmul_any _ _ gq cc x Q k _ (hR.ext hYU) (hVc.ext hYU) (h2.ext hED) hFc hFx hQ (by omega)).mono ?_);rintro e v3 ⟨A32,l32,c32,rfl,hV32,hu3⟩)
      refine kx_ hu3 ?_
      repeat (refine hq_ rfl fun K k=>?_;go_simp;refine k.out _ ?_;clear k K)
      refine head_l rfl ?_
      go_wp2_with (go_at_call 61;go_must (refine(madd_any _ _ gq kk (cc*x % Q) Q k _ (hR.ext (hYU.trans hu3)) (hVKy.ext (hYU.trans hu3)) hV32 hFk hFm hQ (by omega)).mono ?_);rw[←Hss.out];rintro e v4 ⟨A33,l33,c33,rfl,hV33,hu4⟩;replace hu4:=hu3.trans hu4)
      refine kx_ hu4 ?_
      repeat (refine hq_ rfl fun K k=>?_;go_simp;refine k.out _ ?_;clear k K)
      refine head_l rfl ?_
      go_wp2_with (go_at_call 56;go_must (refine(dwidth_any gr P Q G H k _ (HG.out.ext (hED.trans hu4)) hQ (by omega)).mono ?_);rw[←Hz.out];rintro e v5 ⟨rfl,hu5⟩;have hu5g:=hu4.trans hu5)
      refine kx_ hu5g ?_
      repeat (refine hq_ rfl fun K k=>?_;go_simp;refine k.out _ ?_;clear k K)
      refine head_l rfl ?_
      go_wp2_with (go_at_call 55;go_must (refine(bytes_any _ ss k z _ (hV33.ext hu5) hFs (by omega) hbs (by omega)).mono ?_);rintro e v6 ⟨A34,c34,rfl,hl34,hO34,hu6⟩;replace hu6:=hu5g.trans hu6)
      refine kx_ hu6 ?_
      repeat (refine hq_ rfl fun K k=>?_;go_simp;refine k.out _ ?_;clear k K)
      have hUw:=hu6.undrew
      have hS34:=hO34.sl
      have hO:=hO31'.ext hUw
      have hYE:=hYw.trans hUw
      obtain⟨N,hN⟩:∃N,N=2*byteSz Q:=⟨_,rfl⟩
      have hNz:N=z+z:=by rw[hN,Hz.out];omega
      have hlN:(toB cc z++toB ss z).length=N:=by rw[List.length_append,hl31,hl34,hNz]
      have HN:=hide hN
      have HlN:=hide hlN
      have hNm:N≤1000000:=by omega
      have Hl31:=hide hl31
      have Hl34:=hide hl34
      have hfin:toB cc z++toB ss z=pvB P Q a b x side:=by unfold pvB pvS;rw[←HC.out,←HK.out,←Hz.out,←Hss.out]
      have Hfin:=hide hfin
      clear q1 q2 q3 hO34 hu3 hu4 hu5 hu5g hu6 hUd hED hO31' hN hNz hlN hl31 hl34 hV32 hV33 hfin
      refine head_nil ?_
      try simp only[dS_,dZ_]
      clear b8 b26y b27 hR hVKy hVc hYw hUw hYU
      go_wp2_with fail
      refine name_w (fun T hT0=>?_)
      subst hT0
      have hTd:Ext T T.drew:=uR_.drew
      have hYT:=hYE.trans hTd
      have y0:=fun y:Wd (Ext Y)=>y.ok.cellv (hB4.at 0 rfl)
      have y1:=fun y:Wd (Ext Y)=>y.ok.cellv (hB4.at 1 rfl)
      have y2:=fun y:Wd (Ext Y)=>y.ok.cellv (hB4.at 2 rfl)
      have y3:=fun y:Wd (Ext Y)=>y.ok.cellv (hB4.at 3 rfl)
      have hOT:=hO.ext hTd
      have hST:=hS34.ext hTd
      clear hO hS34 hTd hYE
      refine wp_region_plan (Ext Y) 4 [(false,0),(false,1),(false,2),(true,3)] (by kernel_rfl) (by kernel_rfl) hYT (fun hne=>?_)
      repeat (refine hq_ rfl fun K k=>?_;go_simp;refine k.out _ ?_;clear k K)
      refine head_l rfl ?_
      refine wpList_apd by8 one8 Tryz.el8 (toB cc z) (toB ss z) (toB cc z++toB ss z) N rfl HlN.out (by omega) (by unfold maxLen;omega) rfl rfl rfl Hl31.out hOT rfl Hl34.out hST hYT.size ?_
      intro A35 c35 w35 hO35 hU35 hin35
      have hX35:=upd_new hU35 hYT (fun q hq=>(hOT.in_ hq).1)
      go_wp2_with fail
      refine kx_ hX35 ?_
      repeat (refine hq_ rfl fun K k=>?_;go_simp;refine k.out _ ?_;clear k K)
      have b10e:=b10.ext hX35
      have x0:=b10e.at 0 rfl
      have x1:=b10e.at 1 rfl
      have x2:=b10e.at 2 rfl
      have x3:=b10e.at 3 rfl
      have z0:=b10e.frozen 0
      have z1:=b10e.frozen 1
      have z2:=b10e.frozen 2
      have z3:=b10e.frozen 3
      have hF0:=nat4 (b0:=A0) (m0:=l0) (d0:=c0) (b1:=A1) (m1:=l1) (d1:=c1) (b2:=aA10) (m2:=aL10) (d2:=aC10) (b3:=aB10) (m3:=aM10) (d3:=aD10) (h0.ext (hEY.trans hX35)) b10e
      have hF1:=nat4 (b0:=A0) (m0:=l0) (d0:=c0) (b1:=A1) (m1:=l1) (d1:=c1) (b2:=aA10) (m2:=aL10) (d2:=aC10) (b3:=aB10) (m3:=aM10) (d3:=aD10) (h1.ext (hEY.trans hX35)) b10e
      have hF2:=nat4 (b0:=A0) (m0:=l0) (d0:=c0) (b1:=A1) (m1:=l1) (d1:=c1) (b2:=aA10) (m2:=aL10) (d2:=aC10) (b3:=aB10) (m3:=aM10) (d3:=aD10) (hVy.ext hX35) b10e
      have hF3:=nat4 (b0:=A0) (m0:=l0) (d0:=c0) (b1:=A1) (m1:=l1) (d1:=c1) (b2:=aA10) (m2:=aL10) (d2:=aC10) (b3:=aB10) (m3:=aM10) (d3:=aD10) (hVz.ext hX35) b10e
      have hBF:=blk4 b10e (.slice A0 l0 c0) (.slice A1 l1 c1) (.slice aA10 aL10 aC10) (.slice aB10 aM10 aD10)
      have hEF:=ext4 (hEY.trans hX35) (show w.heap.size≤w.heap.size+1+1+1 by omega) (.slice A0 l0 c0) (.slice A1 l1 c1) (.slice aA10 aL10 aC10) (.slice aB10 aM10 aD10)
      have hOF:=own4 hO35 (show w.heap.size+1+1+1<Y.heap.size from b10.lt) (.slice A0 l0 c0) (.slice A1 l1 c1) (.slice aA10 aL10 aC10) (.slice aB10 aM10 aD10)
      have hYs:=hEY.size
      clear y0 y1 y2 y3 hOT hST hYT hU35 hin35 hX35 hO35 hB4 hVy hVz b10 hEY b10e
      refine head_nil ?_
      try simp only[dS_,dZ_]
      go_wp2_with fail
      have q0:=hBF.at 0 rfl
      have q1:=hBF.at 1 rfl
      have q2:=hBF.at 2 rfl
      have q3:=hBF.at 3 rfl
      refine bodyPost_ret (v:=.tuple #[.agg #[.slice A0 l0 c0,.slice A1 l1 c1,.slice aA10 aL10 aC10,.slice aB10 aM10 aD10],.slice A35 N c35,.int .i64 0]) ?_ rfl ?_
      · simp[results,Tryz.results12,go_sem,q0,q1,q2,q3]
      · rw[HR.out,←Hyn.out,←Hzn.out,←HN.out,←Hfin.out]
        exact⟨A0,l0,c0,A1,l1,c1,aA10,aL10,aC10,aB10,aM10,aD10,A35,c35,rfl,hF0,hF1,hF2,hF3,HlN.out,hOF.mono hYs,hEF⟩
end
end Go.Proofs.YtdohmikoafkniaaGreat
