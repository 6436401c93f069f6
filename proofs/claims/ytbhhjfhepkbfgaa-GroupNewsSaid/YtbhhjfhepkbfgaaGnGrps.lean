/- Merged: GrpA GrpM GrpB GrpC GrpJ. -/
import Derived.Test.YtbhhjfhepkbfgaaGnCertG
import Derived.Test.YtbhhjfhepkbfgaaGnMacs
import Derived.Test.YtbhhjfhepkbfgaaGnBlk
namespace Go.Proofs.Ytbhhjfhepkbfgaa
set_option linter.unusedSimpArgs false
set_option linter.unusedVariables false
/- A group, plainly. -/
section
open Go.RowKit
open Nt
def fpow (n:Nat):Nat→Nat→Nat→Nat→Nat
 | 0,_,_,r=>r % n
 | f+1,a,e,r=>if e=0 then r % n else fpow n f (a*a % n) (e / 2) (if e % 2=1 then r*a % n else r)
theorem fpow_eq (n:Nat):∀(f a e r:Nat),e<2^f→fpow n f a e r=r*a^e % n
 | 0,a,e,r,h=>by
   obtain rfl:e=0:=by omega
   simp[fpow]
 | f+1,a,e,r,h=>by
   unfold fpow
   by_cases h0:e=0
   · rw[if_pos h0,h0];simp
   · rw[if_neg h0,fpow_eq n f _ _ _ (by rw[Nat.pow_succ]at h;omega)]
     have he:e=2*(e / 2)+e % 2:=by omega
     have hp:a^e=(a*a)^(e / 2)*a^(e % 2):=by
      conv=>lhs;rw[he,Nat.pow_add,Nat.pow_mul,Nat.pow_two]
     rw[hp]
     have hm:∀k,(a*a % n)^k % n=(a*a)^k % n:=fun k=>by rw[←Nat.pow_mod]
     split
     · rename_i h1
       rw[h1,Nat.pow_one,Nat.mul_mod,hm,Nat.mod_mod,←Nat.mul_mod]
       congr 1
       simp only[Nat.mul_comm,Nat.mul_left_comm,Nat.mul_assoc]
     · rename_i h1
       have h2:e % 2=0:=by omega
       rw[h2,Nat.pow_zero,Nat.mul_one,Nat.mul_mod,hm,←Nat.mul_mod]
theorem pow_is {a e n:Nat} (f:Nat) (h:e<2^f):a^e % n=fpow n f a e 1:=by rw[fpow_eq n f a e 1 h,Nat.one_mul]
def memB (P Q a:Nat):Bool:=decide (0<a) && (decide (a<P) && decide (a^Q % P=1))
def byteSz (P:Nat):Nat:=(blen P+7) / 8
def hTry (P t:Nat) (sd:List (BitVec 8)) (c:Nat):Nat:=(ofB (Mac.expand (Mac.tag [] sd) [104,BitVec.ofNat 8 c] (byteSz P+8)) % P)^t % P
def hFrom (P t:Nat) (sd:List (BitVec 8)):Nat→Nat→Option Nat
 | 0,_=>none
 | f+1,c=>if 1<hTry P t sd c then some (hTry P t sd c) else hFrom P t sd f (c+1)
def hRes (o:Option Nat):Int × Nat:=match o with | some h=>(0,h) | none=>(6,0)
def newG (P Q G:Nat) (sd:List (BitVec 8)) (ss:List St):Int × Nat:=
 if 1024<blen P∨1024<blen Q∨1024<blen G∨128<sd.length then (4,0)
 else if ¬(primeB P ss=true∧primeB Q ss=true) then (8,0)
 else if (P - 1) % Q≠0∨Q≤64∨G≤1∨P≤G then (1,0)
 else if ¬memB P Q G=true then (1,0)
 else hRes (hFrom P ((P - 1) / Q) sd 256 0)
end
/- Products of powers, plainly. -/
section
open Go.RowKit
open Nt
def prodS (bs es:List Nat) (s:Nat):Nat→Nat
 | 0=>1
 | n+1=>prodS bs es s n*gat bs n^(gat es n / 2^s)
def bitsP (bs es:List Nat) (s:Nat):Nat→Nat
 | 0=>1
 | n+1=>bitsP bs es s n*(if gat es n / 2^s % 2=1 then gat bs n else 1)
theorem prodS_step (bs es:List Nat) (s:Nat):∀n,prodS bs es s n=prodS bs es (s+1) n*prodS bs es (s+1) n*bitsP bs es s n
 | 0=>by simp[prodS,bitsP]
 | n+1=>by
   unfold prodS bitsP
   rw[prodS_step bs es s n]
   obtain⟨q,hq⟩:∃q,q=gat es n / 2^(s+1):=⟨_,rfl⟩
   have h1:gat es n / 2^s=2*q+gat es n / 2^s % 2:=by
    rw[hq,Nat.pow_succ,←Nat.div_div_eq_div_mul];omega
   have key:∀(b e q:Nat),e=2*q+e % 2→b^e=b^q*b^q*(if e % 2=1 then b else 1):=fun b e q h=>by
     have h2:b^e=b^(2*q+e % 2):=by rw[←h]
     rw[h2,Nat.pow_add,Nat.two_mul,Nat.pow_add]
     rcases Nat.mod_two_eq_zero_or_one e with h | h
     · rw[h];simp
     · rw[h];simp
   rw[key (gat bs n) (gat es n / 2^s) q h1,←hq]
   simp only[Nat.mul_comm,Nat.mul_left_comm,Nat.mul_assoc]
end
/- A group, walked: what is asked of it. -/
section
open Go.RowKit
open Nt
attribute [local go_sem] steady steadyUpon Cls same_cell
attribute [local irreducible] wpHead wpTree
def grCs (gp gq:Nat) (A1:Option Addr) (l1 c1:Nat) (A2:Option Addr) (l2 c2 sz:Nat):Array Value:=#[.pointer (some ⟨gp,0,none⟩),.pointer (some ⟨gq,0,none⟩),.slice A1 l1 c1,.slice A2 l2 c2,.int .i64 (sz:Int)]
def GrpV (w:World) (gr P Q G H:Nat):Prop:=∃gp gq A1 l1 c1 A2 l2 c2,Blk w gr 79 (grCs gp gq A1 l1 c1 A2 l2 c2 (byteSz P))∧RingV w gp P∧RingV w gq Q∧NatV w (.agg #[.slice A1 l1 c1]) G∧NatV w (.agg #[.slice A2 l2 c2]) H
section
variable {w w' : World} {gr P Q G H : Nat}
theorem GrpV.ext (h:GrpV w gr P Q G H) (hu:Ext w w'):GrpV w' gr P Q G H:=by
 obtain⟨gp,gq,A1,l1,c1,A2,l2,c2,h1,h2,h3,h4,h5⟩:=h
 exact⟨gp,gq,A1,l1,c1,A2,l2,c2,h1.ext hu,h2.ext hu,h3.ext hu,h4.ext hu,h5.ext hu⟩
end
section
variable (gr P Q G H k : Nat) (w : World)
set_option maxRecDepth 100000 in
set_option maxHeartbeats 1000000 in
theorem gP_any (h:GrpV w gr P Q G H):Calls Try.prog 57 #[.pointer (some ⟨gr,0,none⟩)] w (RetN w P):=by
 obtain⟨gp,gq,A1,l1,c1,A2,l2,c2,h1,h2,h3,h4,h5⟩:=h
 go_enter Try.func57,Try.ntmps57
 have b1:Box (w.alloc (.cells #[.slice none 0 0] 33)) w.heap.size 33 (.slice none 0 0):=Box.new _ _ _
 have hE:Ext w (w.alloc (.cells #[.slice none 0 0] 33)):=(by repeat (first | (with_reducible exact Upd.refl _ _) | (with_reducible assumption) | (refine Upd.setCell ?_ (.inr (by first | exact Nat.le_refl _ | (dsimp only;omega) | (simp;done) | (simp;omega))) _) | (with_reducible refine Upd.alloc ?_ _) | (with_reducible refine Upd.drew ?_) | (with_reducible refine Upd.trans ?_ (by with_reducible assumption))))
 have c0:(w.alloc (.cells #[.slice none 0 0] 33)).cell? ⟨gr,0,none⟩=some (.pointer (some ⟨gp,0,none⟩)):=(h1.ext hE).at 0 rfl
 go_wp2_with fail
 refine(mmod_any gp P _ (h2.ext hE)).mono ?_
 rintro e w1 ⟨A,l,c,rfl,hV,hU⟩
 have b1':=b1.ext hU
 have q2:=b1'.cell
 have q3:=b1'.frozen
 go_wp2_with fail
 have q:=(b1'.set (.slice A l c)).cell
 exact bodyPost_ret (v:=.agg #[.slice A l c]) (by simp[results,Try.results57,go_sem,q]) rfl ⟨_,_,_,rfl,hV.far q2,(hE.trans hU).setCell (p:=⟨w.heap.size,0,none⟩) (.inr (Nat.le_refl _)) _⟩
set_option maxRecDepth 100000 in
set_option maxHeartbeats 1000000 in
theorem gExp_any (va vb:Value) (a b m:Nat) (h:GrpV w gr P Q G H) (hVa:NatV w va a) (hVb:NatV w vb b) (hFa:Fit k a) (hFn:Fit k P) (hFb:Fit m b) (hk:k≤50000) (hm:m≤50000):
 Calls Try.prog 23 #[.pointer (some ⟨gr,0,none⟩),va,vb] w (RetN w (a^b % P)):=by
 obtain⟨A,la,ca,xs,rfl, -⟩:=hVa.open_
 obtain⟨B,lb,cb,ys,rfl, -⟩:=hVb.open_
 obtain⟨gp,gq,A1,l1,c1,A2,l2,c2,h1,h2,h3,h4,h5⟩:=h
 go_enter Try.func23,Try.ntmps23
 go_wp2_with fail
 refine name_w (fun W hW=>?_)
 have b4:Box W w.heap.size 33 (.slice A la ca):=by rw[hW];exact((Box.new _ _ _).alloc _).alloc _
 have b5:Box W (w.heap.size+1) 33 (.slice B lb cb):=by rw[hW];exact(Box.new_at (by simp)).alloc _
 have b6:Box W (w.heap.size+1+1) 33 (.slice none 0 0):=by rw[hW];exact Box.new_at (by simp)
 have hE:Ext w W:=by rw[hW];exact(((Upd.refl _ w).alloc _).alloc _).alloc _
 clear hW
 have hED:Ext w W.drew:=hE.drew
 have q0:=fun y:Wd (Ext W.drew)=>y.ok.cellv (show W.drew.cell? ⟨gr,0,none⟩=some (.pointer (some ⟨gp,0,none⟩)) from(h1.ext hED).at 0 rfl)
 have q1:=fun y:Wd (Ext W.drew)=>y.ok.cellv b4.drew.cell
 have q2:=fun y:Wd (Ext W.drew)=>y.ok.cellv b5.drew.cell
 refine wp_region_plan (Ext _) 7 [(false,0),(false,1),(false,2),(false,3),(false,4),(false,5),(true,6)] (by kernel_rfl) (by kernel_rfl) (Upd.refl _ _) (fun hne=>?_)
 repeat (refine head_q rfl (fun K hK=>?_);have hK2:=hide hK;clear hK;go_simp;refine hK2.out _ ?_;clear hK2 K)
 refine head_l rfl ?_
 go_wp2_with (go_at_call 37;go_must (refine(mexp_any _ _ gp a b P k m _ (h2.ext hED) (hVa.ext hED) (hVb.ext hED) hFa hFn hFb hk hm).mono ?_);rintro e w1 ⟨A9,l9,c9,rfl,hV9,hU9⟩)
 refine⟨Cls (Ext _),fun _ h=>h,⟨⟨_,hU9⟩,rfl⟩,?_⟩
 repeat (refine head_q rfl (fun K hK=>?_);have hK2:=hide hK;clear hK;go_simp;refine hK2.out _ ?_;clear hK2 K)
 have b6':=b6.ext hU9.undrew
 have hG:=hE.trans hU9.undrew
 have z2:=b6'.cell
 have z3:=b6'.frozen
 clear q0 q1 q2
 refine head_nil ?_
 try simp only[List.drop_succ_cons,List.drop_zero]
 go_wp2_with fail
 have q:=(b6'.set (.slice A9 l9 c9)).cell
 exact bodyPost_ret (v:=.agg #[.slice A9 l9 c9]) (by simp[results,Try.results23,go_sem,q]) rfl ⟨_,_,_,rfl,hV9.far z2,hG.setCell (p:=⟨w.heap.size+1+1,0,none⟩) (.inr (by simp;omega)) _⟩
theorem cmpI_one (x:Nat):(cmpI x 1 == 0)=decide (x=1):=by
 unfold cmpI
 by_cases h:x<1
 · rw[if_pos h,decide_eq_false (by omega)];rfl
 · rw[if_neg h]
   by_cases h2:x=1
   · rw[decide_eq_true h2,h2];rfl
   · rw[decide_eq_false h2]
     split
     · omega
     · rfl
/-! ### is it a member? -/
set_option maxRecDepth 100000 in
set_option maxHeartbeats 4000000 in
theorem gMember_any (va:Value) (a:Nat) (h:GrpV w gr P Q G H) (hVa:NatV w va a) (hFa:Fit k a) (hFP:Fit k P) (hFQ:Fit k Q) (hk:k≤50000) (hk1:1≤k):
 Calls Try.prog 24 #[.pointer (some ⟨gr,0,none⟩),va] w fun e w'=>e=.returned (.bool (memB P Q a))∧Ext w w':=by
 obtain⟨A,la,ca,xs,rfl, -⟩:=hVa.open_
 have hG:=h
 obtain⟨gp,gq,A1,l1,c1,A2,l2,c2,h1,h2,h3,h4,h5⟩:=h
 obtain⟨t,ht⟩:∃t,t=memB P Q a:=⟨_,rfl⟩
 rw[←ht]
 have Ht:=hide ht
 clear ht
 go_enter Try.func24,Try.ntmps24
 go_wp2_with fail
 refine name_w (fun W hW=>?_)
 have b4:Box W w.heap.size 33 (.slice A la ca):=by rw[hW];exact Box.new _ _ _
 have hE:Ext w W:=by rw[hW];exact(Upd.refl _ w).alloc _
 clear hW
 have hED:Ext w W.drew:=hE.drew
 have q0:=fun y:Wd (Ext W.drew)=>y.ok.cellv (show W.drew.cell? ⟨gr,0,none⟩=some (.pointer (some ⟨gp,0,none⟩)) from(h1.ext hED).at 0 rfl)
 have q9:=fun y:Wd (Ext W.drew)=>y.ok.cellv (show W.drew.cell? ⟨gr,1,none⟩=some (.pointer (some ⟨gq,0,none⟩)) from(h1.ext hED).at 1 rfl)
 have q1:=fun y:Wd (Ext W.drew)=>y.ok.cellv b4.drew.cell
 refine wp_region_plan (Ext _) 30 [(false,0),(false,1),(false,2),(false,3),(true,4),(false,5),(false,6),(false,7),(false,8),(false,9),(true,10),(true,11),(false,12),(false,13),(false,14),(false,15),(false,16),(false,17),(false,18),(false,19),(false,20),(false,21),(false,22),(false,23),(true,24),(true,25),(true,26),(true,27),(false,28),(false,29)] (by kernel_rfl) (by kernel_rfl) (Upd.refl _ _) (fun hne=>?_)
 repeat (refine head_q rfl (fun K hK=>?_);have hK2:=hide hK;clear hK;go_simp;refine hK2.out _ ?_;clear hK2 K)
 by_cases h0:a=0
 · obtain rfl:t=false:=Ht.out.trans (by unfold memB;rw[decide_eq_false (by omega)];rfl)
   refine head_l rfl ?_
   go_wp2_with (go_at_call 30;go_must (refine(zero_any _ a _ (hVa.ext hED)).mono ?_);rintro e w1 ⟨rfl,hU1⟩;rw[decide_eq_true h0])
   refine⟨Cls (Ext _),fun _ h=>h,⟨⟨_,hU1⟩,rfl⟩,?_⟩
   repeat (refine head_q rfl (fun K hK=>?_);have hK2:=hide hK;clear hK;go_simp;refine hK2.out _ ?_;clear hK2 K)
   refine head_l rfl ?_
   go_wp2_with fail
   refine⟨Cls (Ext _),fun _ h=>h,⟨⟨_,hU1⟩,rfl⟩,?_⟩
   repeat (refine head_q rfl (fun K hK=>?_);have hK2:=hide hK;clear hK;go_simp;refine hK2.out _ ?_;clear hK2 K)
   refine head_l rfl ?_
   go_wp2_with fail
   refine⟨Cls (Ext _),fun _ h=>h,⟨⟨_,hU1⟩,rfl⟩,?_⟩
   repeat (refine head_q rfl (fun K hK=>?_);have hK2:=hide hK;clear hK;go_simp;refine hK2.out _ ?_;clear hK2 K)
   refine head_l rfl ?_
   go_wp2_with fail
   refine⟨Cls (Ext _),fun _ h=>h,⟨⟨_,hU1⟩,rfl⟩,?_⟩
   repeat (refine head_q rfl (fun K hK=>?_);have hK2:=hide hK;clear hK;go_simp;refine hK2.out _ ?_;clear hK2 K)
   refine head_l rfl ?_
   go_wp2_with fail
   refine⟨Cls (Ext _),fun _ h=>h,⟨⟨_,hU1⟩,rfl⟩,?_⟩
   repeat (refine head_q rfl (fun K hK=>?_);have hK2:=hide hK;clear hK;go_simp;refine hK2.out _ ?_;clear hK2 K)
   refine head_l rfl ?_
   go_wp2_with fail
   refine⟨Cls (Ext _),fun _ h=>h,⟨⟨_,hU1⟩,rfl⟩,?_⟩
   repeat (refine head_q rfl (fun K hK=>?_);have hK2:=hide hK;clear hK;go_simp;refine hK2.out _ ?_;clear hK2 K)
   refine head_l rfl ?_
   go_wp2_with fail
   refine⟨Cls (Ext _),fun _ h=>h,⟨⟨_,hU1⟩,rfl⟩,?_⟩
   repeat (refine head_q rfl (fun K hK=>?_);have hK2:=hide hK;clear hK;go_simp;refine hK2.out _ ?_;clear hK2 K)
   have hG:=hED.trans hU1
   refine head_nil ?_
   try simp only[List.drop_succ_cons,List.drop_zero]
   go_wp2_with fail
   go_ret
   exact⟨rfl,hG⟩
 refine head_l rfl ?_
 go_wp2_with (go_at_call 30;go_must (refine(zero_any _ a _ (hVa.ext hED)).mono ?_);rintro e w1 ⟨rfl,hU1⟩;rw[decide_eq_false h0])
 refine⟨Cls (Ext _),fun _ h=>h,⟨⟨_,hU1⟩,rfl⟩,?_⟩
 repeat (refine head_q rfl (fun K hK=>?_);have hK2:=hide hK;clear hK;go_simp;refine hK2.out _ ?_;clear hK2 K)
 refine head_l rfl ?_
 go_wp2_with (go_at_call 57;go_must (refine(gP_any gr P Q G H _ (hG.ext (hED.trans hU1))).mono ?_);rintro e w2 ⟨A8,l8,c8,rfl,hV2,hU2⟩;replace hU2:=hU1.trans hU2)
 refine⟨Cls (Ext _),fun _ h=>h,⟨⟨_,hU2⟩,rfl⟩,?_⟩
 repeat (refine head_q rfl (fun K hK=>?_);have hK2:=hide hK;clear hK;go_simp;refine hK2.out _ ?_;clear hK2 K)
 by_cases hlt:a<P
 case neg=>
  obtain rfl:t=false:=Ht.out.trans (by unfold memB;rw[decide_eq_false hlt];simp)
  obtain⟨z,hz,hz0⟩:∃z,cmpI a P=z∧¬z<0:=⟨_,rfl,by unfold cmpI;rw[if_neg hlt];split<;>omega⟩
  have hzd:decide (z<0)=false:=decide_eq_false hz0
  refine head_l rfl ?_
  go_wp2_with (go_at_call 20;go_must (refine(cmp_any _ _ a P k _ (hVa.ext (hED.trans hU2)) hV2 hFa hFP (by omega)).mono ?_);rintro e w3 ⟨rfl,hU3⟩;replace hU3:=hU2.trans hU3;rw[hz])
  refine⟨Cls (Ext _),fun _ h=>h,⟨⟨_,hU3⟩,rfl⟩,?_⟩
  repeat (refine head_q rfl (fun K hK=>?_);have hK2:=hide hK;clear hK;go_simp;refine hK2.out _ ?_;clear hK2 K)
  refine head_l rfl ?_
  go_wp2_with fail
  refine⟨Cls (Ext _),fun _ h=>h,⟨⟨_,hU3⟩,rfl⟩,?_⟩
  repeat (refine head_q rfl (fun K hK=>?_);have hK2:=hide hK;clear hK;go_simp;refine hK2.out _ ?_;clear hK2 K)
  refine head_l rfl ?_
  go_wp2_with fail
  refine⟨Cls (Ext _),fun _ h=>h,⟨⟨_,hU3⟩,rfl⟩,?_⟩
  repeat (refine head_q rfl (fun K hK=>?_);have hK2:=hide hK;clear hK;go_simp;refine hK2.out _ ?_;clear hK2 K)
  refine head_l rfl ?_
  go_wp2_with fail
  refine⟨Cls (Ext _),fun _ h=>h,⟨⟨_,hU3⟩,rfl⟩,?_⟩
  repeat (refine head_q rfl (fun K hK=>?_);have hK2:=hide hK;clear hK;go_simp;refine hK2.out _ ?_;clear hK2 K)
  refine head_l rfl ?_
  go_wp2_with fail
  refine⟨Cls (Ext _),fun _ h=>h,⟨⟨_,hU3⟩,rfl⟩,?_⟩
  repeat (refine head_q rfl (fun K hK=>?_);have hK2:=hide hK;clear hK;go_simp;refine hK2.out _ ?_;clear hK2 K)
  have hG:=hED.trans hU3
  refine head_nil ?_
  try simp only[List.drop_succ_cons,List.drop_zero]
  go_wp2_with fail
  go_ret
  exact⟨rfl,hG⟩
 have hz:cmpI a P= -1:=cmpI_lt hlt
 refine head_l rfl ?_
 go_wp2_with (go_at_call 20;go_must (refine(cmp_any _ _ a P k _ (hVa.ext (hED.trans hU2)) hV2 hFa hFP (by omega)).mono ?_);rintro e w3 ⟨rfl,hU3⟩;replace hU3:=hU2.trans hU3;rw[hz])
 refine⟨Cls (Ext _),fun _ h=>h,⟨⟨_,hU3⟩,rfl⟩,?_⟩
 repeat (refine head_q rfl (fun K hK=>?_);have hK2:=hide hK;clear hK;go_simp;refine hK2.out _ ?_;clear hK2 K)
 refine head_l rfl ?_
 go_wp2_with (go_at_call 58;go_must (refine(mmod_any gq Q _ (h3.ext (hED.trans hU3))).mono ?_);rintro e w4 ⟨A7,l7,c7,rfl,hV4,hU4⟩;replace hU4:=hU3.trans hU4)
 refine⟨Cls (Ext _),fun _ h=>h,⟨⟨_,hU4⟩,rfl⟩,?_⟩
 repeat (refine head_q rfl (fun K hK=>?_);have hK2:=hide hK;clear hK;go_simp;refine hK2.out _ ?_;clear hK2 K)
 refine head_l rfl ?_
 go_wp2_with (go_at_call 37;go_must (refine(mexp_any _ _ gp a Q P k k _ (h2.ext (hED.trans hU4)) (hVa.ext (hED.trans hU4)) hV4 hFa hFP hFQ hk hk).mono ?_);rintro e w5 ⟨A6,l6,c6,rfl,hV5,hU5⟩;have hU5g:=hU4.trans hU5)
 refine⟨Cls (Ext _),fun _ h=>h,⟨⟨_,hU5g⟩,rfl⟩,?_⟩
 repeat (refine head_q rfl (fun K hK=>?_);have hK2:=hide hK;clear hK;go_simp;refine hK2.out _ ?_;clear hK2 K)
 refine head_l rfl ?_
 go_wp2_with (go_at_call 6;go_must (refine(new_any 1 _ (by decide)).mono ?_);rintro e w6 ⟨A5,l5,c5,rfl,hV6,hU6⟩;have hU6g:=hU5g.trans hU6)
 refine⟨Cls (Ext _),fun _ h=>h,⟨⟨_,hU6g⟩,rfl⟩,?_⟩
 repeat (refine head_q rfl (fun K hK=>?_);have hK2:=hide hK;clear hK;go_simp;refine hK2.out _ ?_;clear hK2 K)
 have hFx:Fit k (a^Q % P):=hFP.le (Nat.le_of_lt (Nat.mod_lt _ (by omega)))
 have hF1:Fit k 1:=Fit.mono (by unfold Fit;decide) hk1
 obtain⟨z,hz,hz0⟩:∃z,cmpI (a^Q % P) 1=z∧(z == 0)=t:=⟨_,rfl,(cmpI_one (a^Q % P)).trans (by rw[Ht.out];unfold memB;rw[decide_eq_true (show 0<a by omega),decide_eq_true hlt];rfl)⟩
 refine head_l rfl ?_
 go_wp2_with (go_at_call 20;go_must (refine(cmp_any _ _ (a^Q % P) 1 k _ (hV5.ext hU6) hV6 hFx hF1 (by omega)).mono ?_);rintro e w7 ⟨rfl,hU7⟩;have hU7g:=hU6g.trans hU7;rw[hz])
 refine⟨Cls (Ext _),fun _ h=>h,⟨⟨_,hU7g⟩,rfl⟩,?_⟩
 repeat (refine head_q rfl (fun K hK=>?_);have hK2:=hide hK;clear hK;go_simp;refine hK2.out _ ?_;clear hK2 K)
 have hG:=hED.trans hU7g
 refine head_nil ?_
 try simp only[List.drop_succ_cons,List.drop_zero]
 go_wp2_with fail
 go_ret
 exact⟨rfl,hG⟩
end
end
/- A group, walked: Multi. -/
section
open Go.RowKit
open Nt
attribute [local go_sem] steady steadyUpon Cls same_cell
attribute [local irreducible] wpHead wpTree
end
/- Bytes as a number, byte by byte; what rings keep while a block of the call's own is written. -/
section
open Go.RowKit
open Nt
theorem vf_head (β:Nat) (g:Nat→Nat):∀n,vf β g (n+1)=g 0+β*vf β (fun i=>g (i+1)) n
  | 0=>by simp[vf]
  | n+1=>by
    rw[vf_succ (f:=g),vf_head β g n,vf_succ (f:=fun i=>g (i+1)),Nat.mul_add,Nat.pow_succ]
    simp only[Nat.mul_comm,Nat.mul_left_comm,Nat.mul_assoc,Nat.add_assoc,Nat.add_comm,Nat.add_left_comm]
theorem ofB_snoc (bs:List (BitVec 8)) (b:BitVec 8):ofB (bs++[b])=ofB bs*256+b.toNat:=by
 unfold ofB
 rw[List.length_append,List.length_singleton,vf_head]
 have h0:bdig (bs++[b]) 0=b.toNat:=by simp[bdig,dig,d8,gat]
 have h1:vf 256 (fun i=>bdig (bs++[b]) (i+1)) bs.length=vf 256 (bdig bs) bs.length:=vf_congr fun i hi=>by
   unfold bdig
   rw[List.length_append,List.length_singleton,show bs.length+1 - 1 - (i+1)=bs.length - 1 - i by omega]
   unfold dig
   congr 1
   simp only[gat,List.getD_eq_getElem?_getD]
   rw[List.getElem?_append_left (by omega)]
 rw[h0,h1]
 omega
theorem ofB_take {bs:List (BitVec 8)} {j:Nat} (h:j<bs.length):ofB (bs.take (j+1))=ofB (bs.take j)*256+(gat bs j).toNat:=by
 rw[List.take_succ_eq_append_getElem h,ofB_snoc,gat_lt h]
theorem NatV.farV {w:World} {s:Value} {n:Nat} {p:Addr} {u v:Value} (h:NatV w s n) (hc:w.cell? p=some u) (hu:∀x,by32 x≠u):NatV (w.setCell p v) s n:=by
 obtain⟨s,rfl,h⟩:=h
 exact⟨s,rfl,h.far hc hu⟩
theorem RingV.farV {w:World} {g n:Nat} {p:Addr} {u v:Value} (h:RingV w g n) (hg:g≠p.block) (hc:w.cell? p=some u) (hu:∀x,by32 x≠u):RingV (w.setCell p v) g n:=by
 obtain⟨A,l,c,h1,h2,h3⟩:=h
 exact⟨A,l,c,h1.far hg v,h2.farV hc hu,h3⟩
theorem cmpI_le0 (a b:Nat):decide (cmpI a b≤0)=decide (a≤b):=by
 unfold cmpI
 split
 · rw[decide_eq_true (show a≤b by omega)];rfl
 · split
   · rw[decide_eq_true (show a≤b by omega)];rfl
   · rw[decide_eq_false (show ¬a≤b by omega)];rfl
theorem cmpI_ge0 (a b:Nat):decide (0≤cmpI a b)=decide (b≤a):=by
 unfold cmpI
 split
 · rw[decide_eq_false (show ¬b≤a by omega)];rfl
 · split
   · rw[decide_eq_true (show b≤a by omega)];rfl
   · rw[decide_eq_true (show b≤a by omega)];rfl
theorem cmpI_gt0 (a b:Nat):decide (0<cmpI a b)=decide (b<a):=by
 unfold cmpI
 split
 · rw[decide_eq_false (show ¬b<a by omega)];rfl
 · split
   · rw[decide_eq_false (show ¬b<a by omega)];rfl
   · rw[decide_eq_true (show b<a by omega)];rfl
end
end Go.Proofs.Ytbhhjfhepkbfgaa
