/- Equal exponents: Prove refused, the law's member, plain laws. -/
import Derived.Test.YtdohmikoafkniaaGreatDpDlqC
namespace Go.Proofs.YtdohmikoafkniaaGreat
set_option linter.unusedSimpArgs false
set_option linter.unusedVariables false
open Go.RowKit
open Nt Sha
attribute [local go_sem] steady steadyUpon Cls same_cell
attribute [local irreducible] wpHead wpTree sum chalOf ansN
/-! ### plainly -/
section
variable {P Q : Nat}
theorem gok_of {a:Nat} (h:memB P Q a=true) (hP:2≤P) (hQ:64<Q):GOk P Q a:=⟨(memB_lt h).2.2,hP,hQ⟩
theorem GOk.pow_one {a:Nat} (h:GOk P Q a) (x:Nat):(a^x % P)^Q % P=1:=by
 rw[←Nat.pow_mod,←Nat.pow_mul,Nat.mul_comm,Nat.pow_mul];exact one_pow_mod h.two h.one
theorem GOk.opn_pv {a:Nat} (h:GOk P Q a) {x k c s:Nat} (hs:s % Q=(k+c*x) % Q) (hc:c≤Q):opn P Q a (a^x % P) s c=a^k % P:=by
 unfold opn
 rw[Nat.mul_mod,inv_pow' (h.pow_one x) h.two h.sml hc,←Nat.mul_mod]
 exact h.open_ hs hc
theorem pvC_lt (hQ:64<Q) (a b x:Nat) (side:List (BitVec 8)):pvC P Q a b x side<Q:=ansN_lt (by omega)
theorem pvS_lt (hQ:64<Q) (a b x:Nat) (side:List (BitVec 8)):pvS P Q a b x side<Q:=Nat.mod_lt _ (by omega)
theorem pvB_length (a b x:Nat) (side:List (BitVec 8)):(pvB P Q a b x side).length=2*byteSz Q:=by
 unfold pvB;rw[List.length_append,toB_length,toB_length];omega
theorem proved {a b:Nat} (ha:memB P Q a=true) (hb:memB P Q b=true) (hP:2≤P) (hQ:64<Q) (x:Nat) (side:List (BitVec 8)):dverB P Q a b (a^x % P) (b^x % P) side (pvB P Q a b x side)=true:=by
 have ga:=gok_of ha hP hQ
 have gb:=gok_of hb hP hQ
 have hc:=pvC_lt (P:=P) hQ a b x side
 have hs:=pvS_lt (P:=P) hQ a b x side
 have ht:(pvB P Q a b x side).take (byteSz Q)=toB (pvC P Q a b x side) (byteSz Q):=by
  unfold pvB;rw[List.take_append_of_le_length (by rw[toB_length];exact Nat.le_refl _),List.take_of_length_le (by rw[toB_length];exact Nat.le_refl _)]
 have hd:(pvB P Q a b x side).drop (byteSz Q)=toB (pvS P Q a b x side) (byteSz Q):=by
  unfold pvB;rw[List.drop_append_of_le_length (by rw[toB_length];exact Nat.le_refl _),List.drop_of_length_le (by rw[toB_length];exact Nat.le_refl _),List.nil_append]
 have hse:pvS P Q a b x side % Q=(pvK P Q a b x side+pvC P Q a b x side*x) % Q:=by
  unfold pvS;rw[Nat.mod_mod,Nat.add_mod,Nat.mod_mod,←Nat.add_mod]
 have h1:=ga.opn_pv hse (Nat.le_of_lt hc)
 have h2:=gb.opn_pv hse (Nat.le_of_lt hc)
 have hm:[a,b,a^x % P,b^x % P].all (memB P Q)=true:=by
  simp only[List.all_cons,List.all_nil,ha,hb,ga.mem x,gb.mem x];rfl
 unfold dverB
 rw[ht,hd,ofB_fix hc,ofB_fix hs,hm,decide_eq_true (pvB_length a b x side),decide_eq_true hc,decide_eq_true hs,h1,h2]
 simp only[Bool.true_and]
 exact decide_eq_true rfl
end
theorem sl4 {w:World} {g:Nat} {t:TypeId} {A:Option Addr} {xs:List (BitVec 8)} {a0 a1 a2 a3 b0 b1 b2 b3:Option Addr} {l0 l1 l2 l3 c0 c1 c2 c3 m0 m1 m2 m3 d0 d1 d2 d3:Nat} (h:Sl by8 w A xs) (hb:Blk w g t #[.slice a0 l0 c0,.slice a1 l1 c1,.slice a2 l2 c2,.slice a3 l3 c3]):
 Sl by8 ((((w.setCell ⟨g,0,none⟩ (.slice b0 m0 d0)).setCell ⟨g,1,none⟩ (.slice b1 m1 d1)).setCell ⟨g,2,none⟩ (.slice b2 m2 d2)).setCell ⟨g,3,none⟩ (.slice b3 m3 d3)) A xs:=by
 have hne:∀(A:Option Addr) (l c:Nat) (x:BitVec 8),by8 x≠.slice A l c:=fun _ _ _ _ h=>by cases h
 have h1:=h.far (v:=.slice b0 m0 d0) (hb.at 0 rfl) (hne _ _ _)
 have hb1:=hb.set 0 (.slice b0 m0 d0)
 have h2:=h1.far (v:=.slice b1 m1 d1) (hb1.at 1 rfl) (hne _ _ _)
 have hb2:=hb1.set 1 (.slice b1 m1 d1)
 have h3:=h2.far (v:=.slice b2 m2 d2) (hb2.at 2 rfl) (hne _ _ _)
 have hb3:=hb2.set 2 (.slice b2 m2 d2)
 exact h3.far (hb3.at 3 rfl) (hne _ _ _)
def RetPn (w:World) (e:Ending) (w':World):Prop:=e=.returned (.tuple #[.agg #[.slice none 0 0,.slice none 0 0,.slice none 0 0,.slice none 0 0],.slice none 0 0,.int .i64 1])∧Ext w w'
section
variable (gr P Q G H k : Nat) (w : World)
set_option maxRecDepth 100000 in
set_option maxHeartbeats 4000000 in
theorem dprove_no (A0 A1 A2 AS:Option Addr) (l0 c0 l1 c1 l2 c2 n c:Nat) (a b x:Nat) (h:GrpV w gr P Q G H) (h0:NatV w (.agg #[.slice A0 l0 c0]) a) (h1:NatV w (.agg #[.slice A1 l1 c1]) b) (h2:NatV w (.agg #[.slice A2 l2 c2]) x)
 (hFa:Fit k a) (hFb:Fit k b) (hFx:Fit k x) (hP:Fit k P) (hQ:Fit k Q) (hk:k≤50000) (hk1:1≤k) (hno:[a,b].all (memB P Q)=true→Q≤x):
 Calls Tryz.prog 12 #[.pointer (some ⟨gr,0,none⟩),.agg #[.slice A0 l0 c0],.agg #[.slice A1 l1 c1],.agg #[.slice A2 l2 c2],.slice AS n c] w (RetPn w):=by
 have HG:=hide h
 have Hno:=hide hno
 clear h hno
 go_enter Tryz.func12,Tryz.ntmps12
 go_wp2_with fail
 refine name_w (fun X hX=>?_)
 have b6:Box X w.heap.size 34 (.slice A0 l0 c0):=by rw[hX];exact(((Box.new _ _ _).alloc _).alloc _).alloc _
 have b7:Box X (w.heap.size+1) 34 (.slice A1 l1 c1):=by rw[hX];exact((Box.new_at (by simp)).alloc _).alloc _
 have b8:Box X (w.heap.size+1+1) 34 (.slice A2 l2 c2):=by rw[hX];exact(Box.new_at (by simp)).alloc _
 have b10:Blk X (w.heap.size+1+1+1) 37 #[.slice none 0 0,.slice none 0 0,.slice none 0 0,.slice none 0 0]:=by rw[hX];exact Blk.new_at (by simp)
 have hE:Ext w X:=by rw[hX];exact((((Upd.refl _ w).alloc _).alloc _).alloc _).alloc _
 clear hX
 have hXd:Ext X X.drew:=(Upd.refl _ _).drew
 have hED:=hE.trans hXd
 have y0:=fun y:Wd (Ext X.drew)=>y.ok.cellv b6.drew.cell
 have y1:=fun y:Wd (Ext X.drew)=>y.ok.cellv b7.drew.cell
 have y2:=fun y:Wd (Ext X.drew)=>y.ok.cellv b8.drew.cell
 refine wp_region_plan (Ext _) 13 [(false,0),(false,1),(false,2),(true,3),(true,4),(false,5),(false,6),(false,7),(false,8),(true,9),(true,10),(true,11),(false,12)] (by kernel_rfl) (by kernel_rfl) (Upd.refl _ _) (fun hne=>?_)
 repeat (refine head_q rfl (fun K hK=>?_);have hK2:=hide hK;clear hK;go_simp;refine hK2.out _ ?_;clear hK2 K)
 refine head_l rfl ?_
 go_wp2_with fail
 refine⟨Cls (Ext _),fun _ h=>h,⟨⟨_,(Upd.refl _ _).alloc _⟩,rfl⟩,?_⟩
 repeat (refine head_q rfl (fun K hK=>?_);have hK2:=hide hK;clear hK;go_simp;refine hK2.out _ ?_;clear hK2 K)
 have hX1:Ext X.drew (X.drew.alloc (.cells #[.slice A0 l0 c0,.slice A1 l1 c1] 34)):=(Upd.refl _ _).alloc _
 cases hall:[a,b].all (memB P Q)with
 | false=>
   have Hall:=hide hall
   clear hall
   refine head_l rfl ?_
   go_wp2_with (go_at_call 54;go_must (refine(dmembers_any gr P Q G H k _ _ 2 2 [a,b] (HG.out.ext (hED.trans hX1)) (NTwo.mk 34 (h0.ext hED) (h1.ext hED)).natL rfl (by omega) (fun i hi=>by match i,hi with | 0,_=>exact hFa | 1,_=>exact hFb) hP hQ hk (by omega)).mono ?_);rw[Hall.out];rintro e w1 ⟨rfl,hU1⟩;replace hU1:=hX1.trans hU1)
   refine⟨Cls (Ext _),fun _ h=>h,⟨⟨_,hU1⟩,rfl⟩,?_⟩
   repeat (refine head_q rfl (fun K hK=>?_);have hK2:=hide hK;clear hK;go_simp;refine hK2.out _ ?_;clear hK2 K)
   refine head_l rfl ?_
   go_wp2_with fail
   refine⟨Cls (Ext _),fun _ h=>h,⟨⟨_,hU1⟩,rfl⟩,?_⟩
   repeat (refine head_q rfl (fun K hK=>?_);have hK2:=hide hK;clear hK;go_simp;refine hK2.out _ ?_;clear hK2 K)
   refine head_l rfl ?_
   go_wp2_with fail
   refine⟨Cls (Ext _),fun _ h=>h,⟨⟨_,hU1⟩,rfl⟩,?_⟩
   repeat (refine head_q rfl (fun K hK=>?_);have hK2:=hide hK;clear hK;go_simp;refine hK2.out _ ?_;clear hK2 K)
   refine head_l rfl ?_
   go_wp2_with fail
   refine⟨Cls (Ext _),fun _ h=>h,⟨⟨_,hU1⟩,rfl⟩,?_⟩
   repeat (refine head_q rfl (fun K hK=>?_);have hK2:=hide hK;clear hK;go_simp;refine hK2.out _ ?_;clear hK2 K)
   have hEg:=hXd.trans hU1
   clear y0 y1 y2
   refine head_nil ?_
   try simp only[List.drop_succ_cons,List.drop_zero]
   have b10e:=b10.ext hEg
   have x0:=b10e.at 0 rfl
   have x1:=b10e.at 1 rfl
   have x2:=b10e.at 2 rfl
   have x3:=b10e.at 3 rfl
   have z0:=b10e.frozen 0
   have z1:=b10e.frozen 1
   have z2:=b10e.frozen 2
   have z3:=b10e.frozen 3
   have hBF:=blk4 b10e (.slice none 0 0) (.slice none 0 0) (.slice none 0 0) (.slice none 0 0)
   have hEF:=ext4 (hE.trans hEg) (show w.heap.size≤w.heap.size+1+1+1 by omega) (.slice none 0 0) (.slice none 0 0) (.slice none 0 0) (.slice none 0 0)
   go_wp2_with fail
   have q0:=hBF.at 0 rfl
   have q1:=hBF.at 1 rfl
   have q2:=hBF.at 2 rfl
   have q3:=hBF.at 3 rfl
   refine bodyPost_ret (v:=.tuple #[.agg #[.slice none 0 0,.slice none 0 0,.slice none 0 0,.slice none 0 0],.slice none 0 0,.int .i64 1]) ?_ rfl ⟨rfl,hEF⟩
   simp[results,Tryz.results12,go_sem,q0,q1,q2,q3]
 | true=>
   have hxQ:=Hno.out hall
   have Hall:=hide hall
   clear hall
   obtain⟨z,hz,hz0⟩:∃z,cmpI x Q=z∧(0:Int)≤z:=⟨_,rfl,by unfold cmpI;rw[if_neg (by omega)];split<;>omega⟩
   refine head_l rfl ?_
   go_wp2_with (go_at_call 54;go_must (refine(dmembers_any gr P Q G H k _ _ 2 2 [a,b] (HG.out.ext (hED.trans hX1)) (NTwo.mk 34 (h0.ext hED) (h1.ext hED)).natL rfl (by omega) (fun i hi=>by match i,hi with | 0,_=>exact hFa | 1,_=>exact hFb) hP hQ hk (by omega)).mono ?_);rw[Hall.out];rintro e w1 ⟨rfl,hU1⟩;replace hU1:=hX1.trans hU1)
   refine⟨Cls (Ext _),fun _ h=>h,⟨⟨_,hU1⟩,rfl⟩,?_⟩
   repeat (refine head_q rfl (fun K hK=>?_);have hK2:=hide hK;clear hK;go_simp;refine hK2.out _ ?_;clear hK2 K)
   refine head_l rfl ?_
   go_wp2_with (go_at_call 16;go_must (refine(gField_any gr P Q G H _ (HG.out.ext (hED.trans hU1))).mono ?_);rintro e w2 ⟨gq,rfl,hRq,rfl⟩)
   refine⟨Cls (Ext _),fun _ h=>h,⟨⟨_,hU1⟩,rfl⟩,?_⟩
   repeat (refine head_q rfl (fun K hK=>?_);have hK2:=hide hK;clear hK;go_simp;refine hK2.out _ ?_;clear hK2 K)
   refine head_l rfl ?_
   go_wp2_with (go_at_call 17;go_must (refine(mmod_any gq Q _ hRq).mono ?_);rintro e w3 ⟨A5,l5,c5,rfl,hV5,hU3⟩;replace hU3:=hU1.trans hU3)
   refine⟨Cls (Ext _),fun _ h=>h,⟨⟨_,hU3⟩,rfl⟩,?_⟩
   repeat (refine head_q rfl (fun K hK=>?_);have hK2:=hide hK;clear hK;go_simp;refine hK2.out _ ?_;clear hK2 K)
   refine head_l rfl ?_
   go_wp2_with (go_at_call 15;go_must (refine(cmp_any _ _ x Q k _ (h2.ext (hED.trans hU3)) hV5 hFx hQ (by omega)).mono ?_);rintro e w4 ⟨rfl,hU4⟩;replace hU4:=hU3.trans hU4;rw[hz])
   refine⟨Cls (Ext _),fun _ h=>h,⟨⟨_,hU4⟩,rfl⟩,?_⟩
   repeat (refine head_q rfl (fun K hK=>?_);have hK2:=hide hK;clear hK;go_simp;refine hK2.out _ ?_;clear hK2 K)
   have hEg:=hXd.trans hU4
   clear y0 y1 y2
   refine head_nil ?_
   try simp only[List.drop_succ_cons,List.drop_zero]
   have b10e:=b10.ext hEg
   have x0:=b10e.at 0 rfl
   have x1:=b10e.at 1 rfl
   have x2:=b10e.at 2 rfl
   have x3:=b10e.at 3 rfl
   have z0:=b10e.frozen 0
   have z1:=b10e.frozen 1
   have z2:=b10e.frozen 2
   have z3:=b10e.frozen 3
   have hBF:=blk4 b10e (.slice none 0 0) (.slice none 0 0) (.slice none 0 0) (.slice none 0 0)
   have hEF:=ext4 (hE.trans hEg) (show w.heap.size≤w.heap.size+1+1+1 by omega) (.slice none 0 0) (.slice none 0 0) (.slice none 0 0) (.slice none 0 0)
   go_wp2_with fail
   have q0:=hBF.at 0 rfl
   have q1:=hBF.at 1 rfl
   have q2:=hBF.at 2 rfl
   have q3:=hBF.at 3 rfl
   refine bodyPost_ret (v:=.tuple #[.agg #[.slice none 0 0,.slice none 0 0,.slice none 0 0,.slice none 0 0],.slice none 0 0,.int .i64 1]) ?_ rfl ⟨rfl,hEF⟩
   simp[results,Tryz.results12,go_sem,q0,q1,q2,q3]
set_option maxRecDepth 100000 in
set_option maxHeartbeats 2000000 in
theorem dmem_any (x:Nat) (raw:Bool) (h:GrpV w gr P Q G H) (hx:x<18446744073709551616) (hGf:Fit k G) (hP:Fit k P) (hk:k≤50000) (hk2:2≤k):
 Calls Tryz.prog 11 #[.pointer (some ⟨gr,0,none⟩),.int .u64 (x:Nat),.bool raw] w (RetN w (if raw=true then x else G^x % P)):=by
 go_enter Tryz.func11,Tryz.ntmps11
 obtain⟨W,hW⟩:∃W,W=w.alloc (.cells #[.slice none 0 0] 34):=⟨_,rfl⟩
 have b6:Box W w.heap.size 34 (.slice none 0 0):=by rw[hW];exact Box.new _ _ _
 have hE:Ext w W:=by rw[hW];exact(Upd.refl _ w).alloc _
 cases raw with
 | true=>
   go_wp2_with fail
   rw[←hW]
   refine(new_any x W hx).mono ?_
   rintro e w1 ⟨A1,l1,c1,rfl,hV1,hU1⟩
   have b:=b6.ext hU1
   have z2:=b.cell
   have z3:=b.frozen
   have hEE:=hE.trans hU1
   go_wp2_with fail
   have q:=(b.set (.slice A1 l1 c1)).cell
   exact bodyPost_ret (v:=.agg #[.slice A1 l1 c1]) (by simp[results,Tryz.results11,go_sem,q]) rfl ⟨_,_,_,rfl,hV1.far z2,hEE.setCell (p:=⟨w.heap.size,0,none⟩) (.inr (Nat.le_refl _)) _⟩
 | false=>
   go_wp2_with fail
   rw[←hW]
   refine(gG_any gr P Q G H W (h.ext hE)).mono ?_
   rintro e w1 ⟨A1,l1,c1,rfl,hV1,hU1⟩
   go_wp2_with fail
   refine(new_any x _ hx).mono ?_
   rintro e w2 ⟨A2,l2,c2,rfl,hV2,hU2⟩
   go_wp2_with fail
   refine(gExp_any gr P Q G H k _ _ _ G x k (h.ext (hE.trans (hU1.trans hU2))) (hV1.ext hU2) hV2 hGf hP ((fit2 hx).mono (by omega)) hk hk).mono ?_
   rintro e w3 ⟨A3,l3,c3,rfl,hV3,hU3⟩
   have hUU:=(hU1.trans hU2).trans hU3
   have b:=b6.ext hUU
   have z2:=b.cell
   have z3:=b.frozen
   have hEE:=hE.trans hUU
   go_wp2_with fail
   have q:=(b.set (.slice A3 l3 c3)).cell
   exact bodyPost_ret (v:=.agg #[.slice A3 l3 c3]) (by simp[results,Tryz.results11,go_sem,q]) rfl ⟨_,_,_,rfl,hV3.far z2,hEE.setCell (p:=⟨w.heap.size,0,none⟩) (.inr (Nat.le_refl _)) _⟩
end
end Go.Proofs.YtdohmikoafkniaaGreat
