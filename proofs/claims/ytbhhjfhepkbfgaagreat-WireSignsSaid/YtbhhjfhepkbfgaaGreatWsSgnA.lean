/- Signatures, walked: sizes, keys, bytes, numbers. -/
import Derived.Test.YtbhhjfhepkbfgaaGreatWsGrpo
namespace Go.Proofs.YtbhhjfhepkbfgaaGreat
set_option linter.unusedSimpArgs false
set_option linter.unusedVariables false
open Go.RowKit
open Nt Sha
attribute [local go_sem] steady steadyUpon Cls same_cell
attribute [local irreducible] wpHead wpTree sum
section
variable (gr P Q G H k : Nat) (w : World)
theorem byteSz_int (n:Nat):((blen n:Int)+7) / 8=(byteSz n:Int):=by unfold byteSz;omega
theorem byteSz_le {k n:Nat} (h:Fit k n):byteSz n≤4*k:=by have:=Fit.blen h;unfold byteSz;omega
theorem byteSz_mono {a n:Nat} (h:a≤n):bytelen a≤byteSz n:=by
 show bytelen a≤bytelen n
 rw[bytelen_le_iff]
 exact Nat.lt_of_le_of_lt h (bytelen_le_iff.1 (Nat.le_refl _))
set_option maxRecDepth 100000 in
set_option maxHeartbeats 1000000 in
theorem swidth_any (h:GrpV w gr P Q G H) (hQ:Fit k Q) (hk:k≤1000000):Calls Tryz.prog 42 #[.pointer (some ⟨gr,0,none⟩)] w fun e w'=>e=.returned (.int .i64 (byteSz Q:Nat))∧Ext w w':=by
  have hLb:=byteSz_int Q
  have hbl:=Fit.blen hQ
  obtain⟨b,hb⟩:∃b,b=blen Q:=⟨_,rfl⟩
  obtain⟨z,hz⟩:∃z,z=byteSz Q:=⟨_,rfl⟩
  rw[←hb]at hLb hbl
  rw[←hz]at hLb ⊢
  have Hb:=hide hb
  clear hb hz
  go_enter Tryz.func42,Tryz.ntmps42
  go_wp2_with fail
  refine(gField_any gr P Q G H _ h).mono ?_
  rintro e w1 ⟨gq,rfl,hRq,rfl⟩
  go_wp2_with fail
  refine(mmod_any gq Q _ hRq).mono ?_
  rintro e w2 ⟨A,l,c,rfl,hV,hU⟩
  go_wp2_with fail
  refine(bits_any _ Q k _ hV hQ hk).mono ?_
  rintro e w3 ⟨rfl,hU3⟩
  rw[←Hb.out]
  have hG:=hU.trans hU3
  go_wp2_with fail
  go_ret
  exact⟨congrArg (fun x=>Ending.returned (.int .i64 x)) hLb,hG⟩
set_option maxRecDepth 100000 in
set_option maxHeartbeats 1000000 in
theorem ssize_any (h:GrpV w gr P Q G H) (hQ:Fit k Q) (hk:k≤1000000):Calls Tryz.prog 17 #[.pointer (some ⟨gr,0,none⟩)] w fun e w'=>e=.returned (.int .i64 ((2*byteSz Q:Nat):Int))∧Ext w w':=by
  have hbl:=byteSz_le hQ
  obtain⟨z,hz⟩:∃z,z=byteSz Q:=⟨_,rfl⟩
  obtain⟨Y,hY⟩:∃Y,Y=2*byteSz Q:=⟨_,rfl⟩
  rw[←hY]
  have h2:(2:Int)*(z:Int)=(Y:Int):=by omega
  have hYm:Y≤10000000:=by omega
  have Hz:=hide hz
  have HY:=hide hY
  clear hz hY
  go_enter Tryz.func17,Tryz.ntmps17
  go_wp2_with fail
  refine(swidth_any gr P Q G H k _ h hQ hk).mono ?_
  rw[←Hz.out]
  rintro e w1 ⟨rfl,hU⟩
  clear hbl
  go_wp2_with fail
  go_ret
  exact⟨rfl,hU⟩
/-! ### keys -/
set_option maxRecDepth 100000 in
set_option maxHeartbeats 2000000 in
theorem swrong_any (va:Value) (x m:Nat) (h:GrpV w gr P Q G H) (hV:NatV w va x) (hF:Fit k x) (hQ:Fit k Q) (hk:k≤1000000):
 Calls Tryz.prog 30 #[.pointer (some ⟨gr,0,none⟩),va] w fun e w'=>e=.returned (.bool (decide (x=0∨Q≤x)))∧Ext w w':=by
 obtain⟨A,la,ca,xs,rfl, -⟩:=hV.open_
 obtain⟨t,ht⟩:∃t,t=decide (x=0∨Q≤x):=⟨_,rfl⟩
 rw[←ht]
 have Ht:=hide ht
 clear ht
 go_enter Tryz.func30,Tryz.ntmps30
 go_wp2_with fail
 refine name_w (fun W hW=>?_)
 have b3:Box W w.heap.size 39 (.slice A la ca):=by rw[hW];exact Box.new _ _ _
 have hE:Ext w W:=by rw[hW];exact(Upd.refl _ w).alloc _
 clear hW
 have hED:Ext w W.drew:=hE.drew
 have q1:=fun y:Wd (Ext W.drew)=>y.ok.cellv b3.drew.cell
 refine wp_region_plan (Ext _) 14 [(false,0),(false,1),(false,2),(false,3),(true,4),(false,5),(false,6),(false,7),(false,8),(true,9),(true,10),(true,11),(false,12),(false,13)] (by kernel_rfl) (by kernel_rfl) (Upd.refl _ _) (fun hne=>?_)
 repeat (refine head_q rfl (fun K hK=>?_);have hK2:=hide hK;clear hK;go_simp;refine hK2.out _ ?_;clear hK2 K)
 by_cases h0:x=0
 · obtain rfl:t=true:=Ht.out.trans (decide_eq_true (.inl h0))
   refine head_l rfl ?_
   go_wp2_with (go_at_call 11;go_must (refine(zero_any _ x _ (hV.ext hED)).mono ?_);rintro e w1 ⟨rfl,hU1⟩;rw[decide_eq_true h0])
   refine⟨Cls (Ext _),fun _ h=>h,⟨⟨_,hU1⟩,rfl⟩,?_⟩
   repeat (refine head_q rfl (fun K hK=>?_);have hK2:=hide hK;clear hK;go_simp;refine hK2.out _ ?_;clear hK2 K)
   refine head_l rfl ?_
   go_wp2_with fail
   refine⟨Cls (Ext _),fun _ h=>h,⟨⟨_,hU1⟩,rfl⟩,?_⟩
   repeat (refine head_q rfl (fun K hK=>?_);have hK2:=hide hK;clear hK;go_simp;refine hK2.out _ ?_;clear hK2 K)
   refine head_l rfl ?_
   go_wp2_with fail
   refine⟨Cls (Ext _),fun _ h=>h,⟨⟨_,hU1⟩,rfl⟩,?_⟩
   repeat (refine head_q rfl (fun K hK=>?_);have hK2:=hide hK;clear hK;go_simp;refine hK2.out _ ?_;clear hK2 K)
   refine head_l rfl ?_
   go_wp2_with fail
   refine⟨Cls (Ext _),fun _ h=>h,⟨⟨_,hU1⟩,rfl⟩,?_⟩
   repeat (refine head_q rfl (fun K hK=>?_);have hK2:=hide hK;clear hK;go_simp;refine hK2.out _ ?_;clear hK2 K)
   have hG:=hED.trans hU1
   refine head_nil ?_
   try simp only[List.drop_succ_cons,List.drop_zero]
   go_wp2_with fail
   go_ret
   exact⟨rfl,hG⟩
 refine head_l rfl ?_
 go_wp2_with (go_at_call 11;go_must (refine(zero_any _ x _ (hV.ext hED)).mono ?_);rintro e w1 ⟨rfl,hU1⟩;rw[decide_eq_false h0])
 refine⟨Cls (Ext _),fun _ h=>h,⟨⟨_,hU1⟩,rfl⟩,?_⟩
 repeat (refine head_q rfl (fun K hK=>?_);have hK2:=hide hK;clear hK;go_simp;refine hK2.out _ ?_;clear hK2 K)
 refine head_l rfl ?_
 go_wp2_with (go_at_call 8;go_must (refine(gField_any gr P Q G H _ (h.ext (hED.trans hU1))).mono ?_);rintro e w2 ⟨gq,rfl,hRq,rfl⟩)
 refine⟨Cls (Ext _),fun _ h=>h,⟨⟨_,hU1⟩,rfl⟩,?_⟩
 repeat (refine head_q rfl (fun K hK=>?_);have hK2:=hide hK;clear hK;go_simp;refine hK2.out _ ?_;clear hK2 K)
 refine head_l rfl ?_
 go_wp2_with (go_at_call 25;go_must (refine(mmod_any gq Q _ hRq).mono ?_);rintro e w3 ⟨A3,l3,c3,rfl,hV3,hU3⟩;replace hU3:=hU1.trans hU3)
 refine⟨Cls (Ext _),fun _ h=>h,⟨⟨_,hU3⟩,rfl⟩,?_⟩
 repeat (refine head_q rfl (fun K hK=>?_);have hK2:=hide hK;clear hK;go_simp;refine hK2.out _ ?_;clear hK2 K)
 obtain⟨z,hz,hz0⟩:∃z,cmpI x Q=z∧(decide ((0:Int)≤z))=t:=⟨_,rfl,by
  rw[Ht.out]
  unfold cmpI
  by_cases hlt:x<Q
  · rw[if_pos hlt,decide_eq_false (by omega),decide_eq_false (by omega)]
  · rw[if_neg hlt,decide_eq_true (by split<;>omega),decide_eq_true (by omega)]⟩
 refine head_l rfl ?_
 go_wp2_with (go_at_call 60;go_must (refine(cmp_any _ _ x Q k _ (hV.ext (hED.trans hU3)) hV3 hF hQ hk).mono ?_);rintro e w4 ⟨rfl,hU4⟩;replace hU4:=hU3.trans hU4;rw[hz])
 refine⟨Cls (Ext _),fun _ h=>h,⟨⟨_,hU4⟩,rfl⟩,?_⟩
 repeat (refine head_q rfl (fun K hK=>?_);have hK2:=hide hK;clear hK;go_simp;refine hK2.out _ ?_;clear hK2 K)
 have hG:=hED.trans hU4
 refine head_nil ?_
 try simp only[List.drop_succ_cons,List.drop_zero]
 go_wp2_with fail
 go_ret
 exact⟨rfl,hG⟩
set_option maxRecDepth 100000 in
set_option maxHeartbeats 2000000 in
theorem spub_any (va:Value) (x:Nat) (h:GrpV w gr P Q G H) (hV:NatV w va x) (hF:Fit k x) (hQ:Fit k Q) (hP:Fit k P) (hGf:Fit k G) (hk:k≤50000) (hx0:0<x) (hxQ:x<Q):
 Calls Tryz.prog 12 #[.pointer (some ⟨gr,0,none⟩),va] w (RetE w (G^x % P) 0):=by
 obtain⟨A,la,ca,xs,rfl, -⟩:=hV.open_
 go_enter Tryz.func12,Tryz.ntmps12
 go_wp2_with fail
 refine name_c (fun W hW=>?_)
 have b3:Box W w.heap.size 39 (.slice A la ca):=by rw[hW];exact(Box.new _ _ _).alloc _
 have b4:Box W (w.heap.size+1) 39 (.slice none 0 0):=by rw[hW];exact Box.new_at (by simp)
 have hE:Ext w W:=by rw[hW];exact((Upd.refl _ w).alloc _).alloc _
 clear hW
 refine(swrong_any gr P Q G H k W _ x 0 (h.ext hE) (hV.ext hE) hF hQ (by omega)).mono ?_
 rw[decide_eq_false (by omega)]
 rintro e w1 ⟨rfl,hU1⟩
 have hE1:=hE.trans hU1
 have b3':=b3.ext hU1
 have b4':=b4.ext hU1
 clear hE hU1 b3 b4
 go_wp2_with fail
 refine name_w (fun X hX=>?_)
 subst hX
 have hED:Ext w X.drew:=hE1.drew
 have q1:=fun y:Wd (Ext X.drew)=>y.ok.cellv b3'.drew.cell
 refine wp_region_plan (Ext _) 4 [(false,0),(false,1),(false,3),(true,2)] (by kernel_rfl) (by kernel_rfl) (Upd.refl _ _) (fun hne=>?_)
 repeat (refine head_q rfl (fun K hK=>?_);have hK2:=hide hK;clear hK;go_simp;refine hK2.out _ ?_;clear hK2 K)
 refine head_l rfl ?_
 go_wp2_with (go_at_call 26;go_must (refine(gG_any gr P Q G H _ (h.ext hED)).mono ?_);rintro e w2 ⟨A2,l2,c2,rfl,hV2,hU2⟩)
 refine⟨Cls (Ext _),fun _ h=>h,⟨⟨_,hU2⟩,rfl⟩,?_⟩
 repeat (refine head_q rfl (fun K hK=>?_);have hK2:=hide hK;clear hK;go_simp;refine hK2.out _ ?_;clear hK2 K)
 have hU2w:=hU2.undrew
 clear q1
 refine head_nil ?_
 try simp only[List.drop_succ_cons,List.drop_zero]
 go_wp2_with fail
 refine(gExp_any gr P Q G H k _ _ _ G x k (h.ext (hED.trans hU2)) hV2 (hV.ext (hED.trans hU2)) hGf hP hF hk hk).mono ?_
 rintro e w3 ⟨A3,l3,c3,rfl,hV3,hU3⟩
 have hUU:=hU2w.trans hU3
 have b4n:=b4'.ext hUU
 have z2:=b4n.cell
 have z3:=b4n.frozen
 have hG:=hE1.trans hUU
 go_wp2_with fail
 have q:=(b4n.set (.slice A3 l3 c3)).cell
 exact bodyPost_ret (v:=.tuple #[.agg #[.slice A3 l3 c3],.int .i64 0]) (by simp[results,Tryz.results12,go_sem,q]) rfl ⟨_,_,_,rfl,hV3.far z2,hG.setCell (p:=⟨w.heap.size+1,0,none⟩) (.inr (by simp)) _⟩
/-! ### the number of bytes in the field -/
set_option maxRecDepth 100000 in
set_option maxHeartbeats 2000000 in
theorem snumber_any (A:Option Addr) (n c:Nat) (bs:List (BitVec 8)) (h:GrpV w gr P Q G H) (hS:Sl by8 w A bs) (hn:bs.length=n) (hl:n≤128) (hQ:Fit k Q) (hk:k≤50000) (hk32:32≤k):
 Calls Tryz.prog 76 #[.pointer (some ⟨gr,0,none⟩),.slice A n c] w (RetN w (ofB bs % Q)):=by
 have hF:Fit k (ofB bs):=by
  have h1:=ofB_lt bs
  unfold Fit
  refine Nat.lt_of_lt_of_le h1 ?_
  rw[hn,show(256:Nat)=2^8 by decide,show W32=2^32 by decide,←Nat.pow_mul,←Nat.pow_mul]
  exact Nat.pow_le_pow_right (by omega) (by omega)
 obtain⟨x,hx⟩:∃x,x=ofB bs:=⟨_,rfl⟩
 rw[←hx]at hF ⊢
 have Hx:=hide hx
 clear hx
 go_enter Tryz.func76,Tryz.ntmps76
 go_wp2_with fail
 refine name_c (fun W hW=>?_)
 have b4:Box W w.heap.size 39 (.slice none 0 0):=by rw[hW];exact Box.new _ _ _
 have hE:Ext w W:=by rw[hW];exact(Upd.refl _ w).alloc _
 clear hW
 refine(from_any A n c bs W hn hl (hS.ext hE)).mono ?_
 rw[←Hx.out]
 rintro e w1 ⟨A1,l1,c1,rfl,hV1,hU1⟩
 go_wp2_with fail
 refine name_w (fun X hX=>?_)
 have b5:Box X w1.heap.size 39 (.slice A1 l1 c1):=by rw[hX];exact Box.new _ _ _
 have b4':Box X w.heap.size 39 (.slice none 0 0):=by rw[hX];exact(b4.ext hU1).alloc _
 have hEX:Ext w X:=by rw[hX];exact(hE.trans hU1).alloc _
 have hVX:NatV X (.agg #[.slice A1 l1 c1]) x:=by rw[hX];exact hV1.ext ((Upd.refl _ _).alloc _)
 clear hX hV1 hU1 hE b4
 have hED:Ext w X.drew:=hEX.drew
 have q1:=fun y:Wd (Ext X.drew)=>y.ok.cellv b5.drew.cell
 refine wp_region_plan (Ext _) 4 [(false,0),(false,2),(true,1),(true,3)] (by kernel_rfl) (by kernel_rfl) (Upd.refl _ _) (fun hne=>?_)
 repeat (refine head_q rfl (fun K hK=>?_);have hK2:=hide hK;clear hK;go_simp;refine hK2.out _ ?_;clear hK2 K)
 refine head_l rfl ?_
 go_wp2_with (go_at_call 8;go_must (refine(gField_any gr P Q G H _ (h.ext hED)).mono ?_);rintro e w2 ⟨gq,rfl,hRq,rfl⟩)
 refine⟨Cls (Ext _),fun _ h=>h,⟨⟨_,(Upd.refl _ _)⟩,rfl⟩,?_⟩
 repeat (refine head_q rfl (fun K hK=>?_);have hK2:=hide hK;clear hK;go_simp;refine hK2.out _ ?_;clear hK2 K)
 refine head_l rfl ?_
 go_wp2_with (go_at_call 9;go_must (refine(mof_any _ gq x Q k _ hRq (hVX.ext (Upd.refl _ _).drew) hF hQ (by omega)).mono ?_);rintro e w3 ⟨A3,l3,c3,rfl,hV3,hU3⟩)
 refine⟨Cls (Ext _),fun _ h=>h,⟨⟨_,hU3⟩,rfl⟩,?_⟩
 repeat (refine head_q rfl (fun K hK=>?_);have hK2:=hide hK;clear hK;go_simp;refine hK2.out _ ?_;clear hK2 K)
 have b4n:=b4'.ext hU3.undrew
 have z2:=b4n.cell
 have z3:=b4n.frozen
 have hG:=hEX.trans hU3.undrew
 clear q1
 refine head_nil ?_
 try simp only[List.drop_succ_cons,List.drop_zero]
 go_wp2_with fail
 have q:=(b4n.set (.slice A3 l3 c3)).cell
 exact bodyPost_ret (v:=.agg #[.slice A3 l3 c3]) (by simp[results,Tryz.results76,go_sem,q]) rfl ⟨_,_,_,rfl,hV3.far z2,hG.setCell (p:=⟨w.heap.size,0,none⟩) (.inr (Nat.le_refl _)) _⟩
end
end Go.Proofs.YtbhhjfhepkbfgaaGreat
