/- Signatures, walked: sizes, keys, bytes, numbers. -/
import Derived.Test.YtbhhjfhepkbfgaaLbGrpo
import Derived.Test.YtbhhjfhepkbfgaaLbMonoL
namespace Go.Proofs.Ytbhhjfhepkbfgaa
set_option linter.unusedSimpArgs false
set_option linter.unusedVariables false
open Go.RowKit
open Nt Sha
attribute [local go_sem] steady steadyUpon Cls same_cell anyW
attribute [local irreducible] wpHead wpTree wpHeadR sum
section
variable (gr P Q G H k : Nat) (w : World)
theorem byteSz_le {k n:Nat} (h:Fit k n):byteSz n≤4*k:=by have:=Fit.blen h;unfold byteSz;omega
theorem byteSz_mono {a n:Nat} (h:a≤n):bytelen a≤byteSz n:=by
 show bytelen a≤bytelen n
 rw[bytelen_le_iff]
 exact Nat.lt_of_le_of_lt h (bytelen_le_iff.1 (Nat.le_refl _))
/-! ### keys -/
set_option maxRecDepth 100000 in
set_option maxHeartbeats 2000000 in
theorem swrong_any (va:Value) (x m:Nat) (h:GrpV w gr P Q G H) (hV:NatV w va x) (hF:Fit k x) (hQ:Fit k Q) (hk:k≤1000000):
 Calls Try.prog 50 #[.pointer (some ⟨gr,0,none⟩),va] w fun e w'=>e=.returned (.bool (decide (x=0∨Q≤x)))∧Ext w w':=by
 obtain⟨A,la,ca,xs,rfl, -⟩:=hV.open_
 obtain⟨t,ht⟩:∃t,t=decide (x=0∨Q≤x):=⟨_,rfl⟩
 rw[←ht]
 have Ht:=hide ht
 clear ht
 go_enter Try.func50,Try.ntmps50
 go_wp2_with fail
 refine name_w (fun W hW=>?_)
 have b3:Box W w.heap.size 33 (.slice A la ca):=by rw[hW];exact Box.new _ _ _
 have hE:Ext w W:=by rw[hW];exact(Upd.refl _ w).alloc _
 clear hW
 have hED:Ext w W.drew:=hE.drew
 have q1:=fun y:Wd (Ext W.drew)=>y.ok.cellv b3.drew.cell
 refine wp_region_plan (Ext _) 14 [(false,0),(false,1),(false,2),(false,3),(true,4),(false,5),(false,6),(false,7),(false,8),(true,9),(true,10),(true,11),(false,12),(false,13)] (by kernel_rfl) (by kernel_rfl) (Upd.refl _ _) (fun hne=>?_)
 repeat (refine head_q rfl (fun K hK=>?_);have hK2:=hide hK;clear hK;go_simp;refine hK2.out _ ?_;clear hK2 K)
 by_cases h0:x=0
 · obtain rfl:t=true:=Ht.out.trans (decide_eq_true (.inl h0))
   refine head_l rfl ?_
   go_wp2_with (go_at_call 30;go_must (refine(zero_any _ x _ (hV.ext hED)).mono ?_);rintro e w1 ⟨rfl,hU1⟩;rw[decide_eq_true h0])
   refine⟨Cls (Ext _),fun _ h=>h,⟨⟨_,hU1⟩,rfl⟩,?_⟩
   repeat (refine head_q rfl (fun K hK=>?_);have hK2:=hide hK;clear hK;go_simp;refine hK2.out _ ?_;clear hK2 K)
   refine head_l rfl ?_
   go_wp2_with fail
   refine⟨Cls (Ext _),fun _ h=>h,⟨⟨_,hU1⟩,rfl⟩,?_⟩
   repeat (refine head_q rfl (fun K hK=>?_);have hK2:=hide hK;clear hK;go_simp;refine hK2.out _ ?_;clear hK2 K)
   refine head_l rfl ?_
   go_wp2_with fail
   refine⟨Cls (Ext _),fun _ h=>h,⟨⟨_,hU1⟩,rfl⟩,?_⟩
   repeat (refine head_q rfl (fun K hK=>?_);have hK2:=hide hK;clear hK;go_simp;refine hK2.out _ ?_;clear hK2 K)
   refine head_l rfl ?_
   go_wp2_with fail
   refine⟨Cls (Ext _),fun _ h=>h,⟨⟨_,hU1⟩,rfl⟩,?_⟩
   repeat (refine head_q rfl (fun K hK=>?_);have hK2:=hide hK;clear hK;go_simp;refine hK2.out _ ?_;clear hK2 K)
   have hG:=hED.trans hU1
   refine head_nil ?_
   try simp only[List.drop_succ_cons,List.drop_zero]
   go_wp2_with fail
   go_ret
   exact⟨rfl,hG⟩
 refine head_l rfl ?_
 go_wp2_with (go_at_call 30;go_must (refine(zero_any _ x _ (hV.ext hED)).mono ?_);rintro e w1 ⟨rfl,hU1⟩;rw[decide_eq_false h0])
 refine⟨Cls (Ext _),fun _ h=>h,⟨⟨_,hU1⟩,rfl⟩,?_⟩
 repeat (refine head_q rfl (fun K hK=>?_);have hK2:=hide hK;clear hK;go_simp;refine hK2.out _ ?_;clear hK2 K)
 refine head_l rfl ?_
 go_wp2_with (go_at_call 49;go_must (refine(gField_any gr P Q G H _ (h.ext (hED.trans hU1))).mono ?_);rintro e w2 ⟨gq,rfl,hRq,rfl⟩)
 refine⟨Cls (Ext _),fun _ h=>h,⟨⟨_,hU1⟩,rfl⟩,?_⟩
 repeat (refine head_q rfl (fun K hK=>?_);have hK2:=hide hK;clear hK;go_simp;refine hK2.out _ ?_;clear hK2 K)
 refine head_l rfl ?_
 go_wp2_with (go_at_call 58;go_must (refine(mmod_any gq Q _ hRq).mono ?_);rintro e w3 ⟨A3,l3,c3,rfl,hV3,hU3⟩;replace hU3:=hU1.trans hU3)
 refine⟨Cls (Ext _),fun _ h=>h,⟨⟨_,hU3⟩,rfl⟩,?_⟩
 repeat (refine head_q rfl (fun K hK=>?_);have hK2:=hide hK;clear hK;go_simp;refine hK2.out _ ?_;clear hK2 K)
 obtain⟨z,hz,hz0⟩:∃z,cmpI x Q=z∧(decide ((0:Int)≤z))=t:=⟨_,rfl,by
  rw[Ht.out]
  unfold cmpI
  by_cases hlt:x<Q
  · rw[if_pos hlt,decide_eq_false (by omega),decide_eq_false (by omega)]
  · rw[if_neg hlt,decide_eq_true (by split<;>omega),decide_eq_true (by omega)]⟩
 refine head_l rfl ?_
 go_wp2_with (go_at_call 20;go_must (refine(cmp_any _ _ x Q k _ (hV.ext (hED.trans hU3)) hV3 hF hQ hk).mono ?_);rintro e w4 ⟨rfl,hU4⟩;replace hU4:=hU3.trans hU4;rw[hz])
 refine⟨Cls (Ext _),fun _ h=>h,⟨⟨_,hU4⟩,rfl⟩,?_⟩
 repeat (refine head_q rfl (fun K hK=>?_);have hK2:=hide hK;clear hK;go_simp;refine hK2.out _ ?_;clear hK2 K)
 have hG:=hED.trans hU4
 refine head_nil ?_
 try simp only[List.drop_succ_cons,List.drop_zero]
 go_wp2_with fail
 go_ret
 exact⟨rfl,hG⟩
set_option maxRecDepth 100000 in
set_option maxHeartbeats 2000000 in
theorem spub_any (va:Value) (x:Nat) (h:GrpV w gr P Q G H) (hV:NatV w va x) (hF:Fit k x) (hQ:Fit k Q) (hP:Fit k P) (hGf:Fit k G) (hk:k≤50000) (hx0:0<x) (hxQ:x<Q):
 Calls Try.prog 18 #[.pointer (some ⟨gr,0,none⟩),va] w (RetE w (G^x % P) 0):=by
 obtain⟨A,la,ca,xs,rfl, -⟩:=hV.open_
 go_enter Try.func18,Try.ntmps18
 go_wp2_with fail
 refine name_c (fun W hW=>?_)
 have b3:Box W w.heap.size 33 (.slice A la ca):=by rw[hW];exact(Box.new _ _ _).alloc _
 have b4:Box W (w.heap.size+1) 33 (.slice none 0 0):=by rw[hW];exact Box.new_at (by simp)
 have hE:Ext w W:=by rw[hW];exact((Upd.refl _ w).alloc _).alloc _
 clear hW
 refine(swrong_any gr P Q G H k W _ x 0 (h.ext hE) (hV.ext hE) hF hQ (by omega)).mono ?_
 rw[decide_eq_false (by omega)]
 rintro e w1 ⟨rfl,hU1⟩
 have hE1:=hE.trans hU1
 have b3':=b3.ext hU1
 have b4':=b4.ext hU1
 clear hE hU1 b3 b4
 go_wp2_with fail
 refine name_w (fun X hX=>?_)
 subst hX
 have hED:Ext w X.drew:=hE1.drew
 have q1:=fun y:Wd (Ext X.drew)=>y.ok.cellv b3'.drew.cell
 refine wp_region_plan (Ext _) 4 [(false,0),(false,1),(false,3),(true,2)] (by kernel_rfl) (by kernel_rfl) (Upd.refl _ _) (fun hne=>?_)
 repeat (refine head_q rfl (fun K hK=>?_);have hK2:=hide hK;clear hK;go_simp;refine hK2.out _ ?_;clear hK2 K)
 refine head_l rfl ?_
 go_wp2_with (go_at_call 12;go_must (refine(gG_any gr P Q G H _ (h.ext hED)).mono ?_);rintro e w2 ⟨A2,l2,c2,rfl,hV2,hU2⟩)
 refine⟨Cls (Ext _),fun _ h=>h,⟨⟨_,hU2⟩,rfl⟩,?_⟩
 repeat (refine head_q rfl (fun K hK=>?_);have hK2:=hide hK;clear hK;go_simp;refine hK2.out _ ?_;clear hK2 K)
 have hU2w:=hU2.undrew
 clear q1
 refine head_nil ?_
 try simp only[List.drop_succ_cons,List.drop_zero]
 go_wp2_with fail
 refine(gExp_any gr P Q G H k _ _ _ G x k (h.ext (hED.trans hU2)) hV2 (hV.ext (hED.trans hU2)) hGf hP hF hk hk).mono ?_
 rintro e w3 ⟨A3,l3,c3,rfl,hV3,hU3⟩
 have hUU:=hU2w.trans hU3
 have b4n:=b4'.ext hUU
 have z2:=b4n.cell
 have z3:=b4n.frozen
 have hG:=hE1.trans hUU
 go_wp2_with fail
 have q:=(b4n.set (.slice A3 l3 c3)).cell
 exact bodyPost_ret (v:=.tuple #[.agg #[.slice A3 l3 c3],.int .i64 0]) (by simp[results,Try.results18,go_sem,q]) rfl ⟨_,_,_,rfl,hV3.far z2,hG.setCell (p:=⟨w.heap.size+1,0,none⟩) (.inr (by simp)) _⟩
/-! ### the number of bytes in the field -/
end
end Go.Proofs.Ytbhhjfhepkbfgaa
