/- Merged: GrpA GrpM GrpB GrpC GrpJ. -/
import Derived.Test.YtbhhjfhepkbfgaaGreatWsCertG
namespace Go.Proofs.YtbhhjfhepkbfgaaGreat
set_option linter.unusedSimpArgs false
set_option linter.unusedVariables false
/- A group, plainly. -/
section
open Go.RowKit
open Nt
def fpow (n:Nat):Nat→Nat→Nat→Nat→Nat
 | 0,_,_,r=>r % n
 | f+1,a,e,r=>if e=0 then r % n else fpow n f (a*a % n) (e / 2) (if e % 2=1 then r*a % n else r)
theorem fpow_eq (n:Nat):∀(f a e r:Nat),e<2^f→fpow n f a e r=r*a^e % n
 | 0,a,e,r,h=>by
   obtain rfl:e=0:=by omega
   simp[fpow]
 | f+1,a,e,r,h=>by
   unfold fpow
   by_cases h0:e=0
   · rw[if_pos h0,h0];simp
   · rw[if_neg h0,fpow_eq n f _ _ _ (by rw[Nat.pow_succ]at h;omega)]
     have he:e=2*(e / 2)+e % 2:=by omega
     have hp:a^e=(a*a)^(e / 2)*a^(e % 2):=by
      conv=>lhs;rw[he,Nat.pow_add,Nat.pow_mul,Nat.pow_two]
     rw[hp]
     have hm:∀k,(a*a % n)^k % n=(a*a)^k % n:=fun k=>by rw[←Nat.pow_mod]
     split
     · rename_i h1
       rw[h1,Nat.pow_one,Nat.mul_mod,hm,Nat.mod_mod,←Nat.mul_mod]
       congr 1
       simp only[Nat.mul_comm,Nat.mul_left_comm,Nat.mul_assoc]
     · rename_i h1
       have h2:e % 2=0:=by omega
       rw[h2,Nat.pow_zero,Nat.mul_one,Nat.mul_mod,hm,←Nat.mul_mod]
theorem pow_is {a e n:Nat} (f:Nat) (h:e<2^f):a^e % n=fpow n f a e 1:=by rw[fpow_eq n f a e 1 h,Nat.one_mul]
def memB (P Q a:Nat):Bool:=decide (0<a) && (decide (a<P) && decide (a^Q % P=1))
def byteSz (P:Nat):Nat:=(blen P+7) / 8
def hTry (P t:Nat) (sd:List (BitVec 8)) (c:Nat):Nat:=(ofB (Mac.expand (Mac.tag [] sd) [104,BitVec.ofNat 8 c] (byteSz P+8)) % P)^t % P
def hFrom (P t:Nat) (sd:List (BitVec 8)):Nat→Nat→Option Nat
 | 0,_=>none
 | f+1,c=>if 1<hTry P t sd c then some (hTry P t sd c) else hFrom P t sd f (c+1)
def hRes (o:Option Nat):Int × Nat:=match o with | some h=>(0,h) | none=>(6,0)
def newG (P Q G:Nat) (sd:List (BitVec 8)) (ss:List St):Int × Nat:=
 if 1024<blen P∨1024<blen Q∨1024<blen G∨128<sd.length then (4,0)
 else if ¬(primeB P ss=true∧primeB Q ss=true) then (8,0)
 else if (P - 1) % Q≠0∨Q≤64∨G≤1∨P≤G then (1,0)
 else if ¬memB P Q G=true then (1,0)
 else hRes (hFrom P ((P - 1) / Q) sd 256 0)
end
/- Products of powers, plainly. -/
section
open Go.RowKit
open Nt
def prodS (bs es:List Nat) (s:Nat):Nat→Nat
 | 0=>1
 | n+1=>prodS bs es s n*gat bs n^(gat es n / 2^s)
def bitsP (bs es:List Nat) (s:Nat):Nat→Nat
 | 0=>1
 | n+1=>bitsP bs es s n*(if gat es n / 2^s % 2=1 then gat bs n else 1)
theorem prodS_step (bs es:List Nat) (s:Nat):∀n,prodS bs es s n=prodS bs es (s+1) n*prodS bs es (s+1) n*bitsP bs es s n
 | 0=>by simp[prodS,bitsP]
 | n+1=>by
   unfold prodS bitsP
   rw[prodS_step bs es s n]
   obtain⟨q,hq⟩:∃q,q=gat es n / 2^(s+1):=⟨_,rfl⟩
   have h1:gat es n / 2^s=2*q+gat es n / 2^s % 2:=by
    rw[hq,Nat.pow_succ,←Nat.div_div_eq_div_mul];omega
   have key:∀(b e q:Nat),e=2*q+e % 2→b^e=b^q*b^q*(if e % 2=1 then b else 1):=fun b e q h=>by
     have h2:b^e=b^(2*q+e % 2):=by rw[←h]
     rw[h2,Nat.pow_add,Nat.two_mul,Nat.pow_add]
     rcases Nat.mod_two_eq_zero_or_one e with h | h
     · rw[h];simp
     · rw[h];simp
   rw[key (gat bs n) (gat es n / 2^s) q h1,←hq]
   simp only[Nat.mul_comm,Nat.mul_left_comm,Nat.mul_assoc]
theorem prodS_top (bs es:List Nat) (s:Nat):∀n,(∀k,k<n→blen (gat es k)≤s)→prodS bs es s n=1
 | 0,_=>rfl
 | n+1,h=>by
   unfold prodS
   have hs:=h n (by omega)
   have h0:gat es n / 2^s=0:=Nat.div_eq_of_lt (Nat.lt_of_lt_of_le (blen_lt _) (Nat.pow_le_pow_right (by omega) hs))
   rw[prodS_top bs es s n (fun k hk=>h k (by omega)),h0,Nat.pow_zero]
def prodE (bs es:List Nat):Nat→Nat
 | 0=>1
 | n+1=>prodE bs es n*gat bs n^gat es n
theorem prodS_zero (bs es:List Nat):∀n,prodS bs es 0 n=prodE bs es n
 | 0=>rfl
 | n+1=>by unfold prodS prodE;rw[prodS_zero bs es n,Nat.pow_zero,Nat.div_one]
end
/- A group, walked: what is asked of it. -/
section
open Go.RowKit
open Nt
attribute [local go_sem] steady steadyUpon Cls same_cell
attribute [local irreducible] wpHead wpTree
def grCs (gp gq:Nat) (A1:Option Addr) (l1 c1:Nat) (A2:Option Addr) (l2 c2 sz:Nat):Array Value:=#[.pointer (some ⟨gp,0,none⟩),.pointer (some ⟨gq,0,none⟩),.slice A1 l1 c1,.slice A2 l2 c2,.int .i64 (sz:Int)]
def GrpV (w:World) (gr P Q G H:Nat):Prop:=∃gp gq A1 l1 c1 A2 l2 c2,Blk w gr 78 (grCs gp gq A1 l1 c1 A2 l2 c2 (byteSz P))∧RingV w gp P∧RingV w gq Q∧NatV w (.agg #[.slice A1 l1 c1]) G∧NatV w (.agg #[.slice A2 l2 c2]) H
section
variable {w w' : World} {gr P Q G H : Nat}
theorem GrpV.ext (h:GrpV w gr P Q G H) (hu:Ext w w'):GrpV w' gr P Q G H:=by
 obtain⟨gp,gq,A1,l1,c1,A2,l2,c2,h1,h2,h3,h4,h5⟩:=h
 exact⟨gp,gq,A1,l1,c1,A2,l2,c2,h1.ext hu,h2.ext hu,h3.ext hu,h4.ext hu,h5.ext hu⟩
end
section
variable (gr P Q G H k : Nat) (w : World)
set_option maxRecDepth 100000 in
set_option maxHeartbeats 1000000 in
theorem gP_any (h:GrpV w gr P Q G H):Calls Tryz.prog 24 #[.pointer (some ⟨gr,0,none⟩)] w (RetN w P):=by
 obtain⟨gp,gq,A1,l1,c1,A2,l2,c2,h1,h2,h3,h4,h5⟩:=h
 go_enter Tryz.func24,Tryz.ntmps24
 have b1:Box (w.alloc (.cells #[.slice none 0 0] 39)) w.heap.size 39 (.slice none 0 0):=Box.new _ _ _
 have hE:Ext w (w.alloc (.cells #[.slice none 0 0] 39)):=(by repeat (first | (with_reducible exact Upd.refl _ _) | (with_reducible assumption) | (refine Upd.setCell ?_ (.inr (by first | exact Nat.le_refl _ | (dsimp only;omega) | (simp;done) | (simp;omega))) _) | (with_reducible refine Upd.alloc ?_ _) | (with_reducible refine Upd.drew ?_) | (with_reducible refine Upd.trans ?_ (by with_reducible assumption))))
 have c0:(w.alloc (.cells #[.slice none 0 0] 39)).cell? ⟨gr,0,none⟩=some (.pointer (some ⟨gp,0,none⟩)):=(h1.ext hE).at 0 rfl
 go_wp2_with fail
 refine(mmod_any gp P _ (h2.ext hE)).mono ?_
 rintro e w1 ⟨A,l,c,rfl,hV,hU⟩
 have b1':=b1.ext hU
 have q2:=b1'.cell
 have q3:=b1'.frozen
 go_wp2_with fail
 have q:=(b1'.set (.slice A l c)).cell
 exact bodyPost_ret (v:=.agg #[.slice A l c]) (by simp[results,Tryz.results24,go_sem,q]) rfl ⟨_,_,_,rfl,hV.far q2,(hE.trans hU).setCell (p:=⟨w.heap.size,0,none⟩) (.inr (Nat.le_refl _)) _⟩
set_option maxRecDepth 100000 in
theorem gField_any (h:GrpV w gr P Q G H):Calls Tryz.prog 8 #[.pointer (some ⟨gr,0,none⟩)] w fun e w'=>∃gq,e=.returned (.pointer (some ⟨gq,0,none⟩))∧RingV w' gq Q∧w'=w:=by
  obtain⟨gp,gq,A1,l1,c1,A2,l2,c2,h1,h2,h3,h4,h5⟩:=h
  have c0:w.cell? ⟨gr,1,none⟩=some (.pointer (some ⟨gq,0,none⟩)):=h1.at 1 rfl
  go_enter Tryz.func8,Tryz.ntmps8
  go_wp2_with fail
  go_ret
  exact⟨gq,rfl,h3,rfl⟩
set_option maxRecDepth 100000 in
set_option maxHeartbeats 1000000 in
theorem gExp_any (va vb:Value) (a b m:Nat) (h:GrpV w gr P Q G H) (hVa:NatV w va a) (hVb:NatV w vb b) (hFa:Fit k a) (hFn:Fit k P) (hFb:Fit m b) (hk:k≤50000) (hm:m≤50000):
 Calls Tryz.prog 31 #[.pointer (some ⟨gr,0,none⟩),va,vb] w (RetN w (a^b % P)):=by
 obtain⟨A,la,ca,xs,rfl, -⟩:=hVa.open_
 obtain⟨B,lb,cb,ys,rfl, -⟩:=hVb.open_
 obtain⟨gp,gq,A1,l1,c1,A2,l2,c2,h1,h2,h3,h4,h5⟩:=h
 go_enter Tryz.func31,Tryz.ntmps31
 go_wp2_with fail
 refine name_w (fun W hW=>?_)
 have b4:Box W w.heap.size 39 (.slice A la ca):=by rw[hW];exact((Box.new _ _ _).alloc _).alloc _
 have b5:Box W (w.heap.size+1) 39 (.slice B lb cb):=by rw[hW];exact(Box.new_at (by simp)).alloc _
 have b6:Box W (w.heap.size+1+1) 39 (.slice none 0 0):=by rw[hW];exact Box.new_at (by simp)
 have hE:Ext w W:=by rw[hW];exact(((Upd.refl _ w).alloc _).alloc _).alloc _
 clear hW
 have hED:Ext w W.drew:=hE.drew
 have q0:=fun y:Wd (Ext W.drew)=>y.ok.cellv (show W.drew.cell? ⟨gr,0,none⟩=some (.pointer (some ⟨gp,0,none⟩)) from(h1.ext hED).at 0 rfl)
 have q1:=fun y:Wd (Ext W.drew)=>y.ok.cellv b4.drew.cell
 have q2:=fun y:Wd (Ext W.drew)=>y.ok.cellv b5.drew.cell
 refine wp_region_plan (Ext _) 7 [(false,0),(false,1),(false,2),(false,3),(false,4),(false,5),(true,6)] (by kernel_rfl) (by kernel_rfl) (Upd.refl _ _) (fun hne=>?_)
 repeat (refine head_q rfl (fun K hK=>?_);have hK2:=hide hK;clear hK;go_simp;refine hK2.out _ ?_;clear hK2 K)
 refine head_l rfl ?_
 go_wp2_with (go_at_call 67;go_must (refine(mexp_any _ _ gp a b P k m _ (h2.ext hED) (hVa.ext hED) (hVb.ext hED) hFa hFn hFb hk hm).mono ?_);rintro e w1 ⟨A9,l9,c9,rfl,hV9,hU9⟩)
 refine⟨Cls (Ext _),fun _ h=>h,⟨⟨_,hU9⟩,rfl⟩,?_⟩
 repeat (refine head_q rfl (fun K hK=>?_);have hK2:=hide hK;clear hK;go_simp;refine hK2.out _ ?_;clear hK2 K)
 have b6':=b6.ext hU9.undrew
 have hG:=hE.trans hU9.undrew
 have z2:=b6'.cell
 have z3:=b6'.frozen
 clear q0 q1 q2
 refine head_nil ?_
 try simp only[List.drop_succ_cons,List.drop_zero]
 go_wp2_with fail
 have q:=(b6'.set (.slice A9 l9 c9)).cell
 exact bodyPost_ret (v:=.agg #[.slice A9 l9 c9]) (by simp[results,Tryz.results31,go_sem,q]) rfl ⟨_,_,_,rfl,hV9.far z2,hG.setCell (p:=⟨w.heap.size+1+1,0,none⟩) (.inr (by simp;omega)) _⟩
theorem cmpI_one (x:Nat):(cmpI x 1 == 0)=decide (x=1):=by
 unfold cmpI
 by_cases h:x<1
 · rw[if_pos h,decide_eq_false (by omega)];rfl
 · rw[if_neg h]
   by_cases h2:x=1
   · rw[decide_eq_true h2,h2];rfl
   · rw[decide_eq_false h2]
     split
     · omega
     · rfl
/-! ### is it a member? -/
set_option maxRecDepth 100000 in
set_option maxHeartbeats 4000000 in
theorem gMember_any (va:Value) (a:Nat) (h:GrpV w gr P Q G H) (hVa:NatV w va a) (hFa:Fit k a) (hFP:Fit k P) (hFQ:Fit k Q) (hk:k≤50000) (hk1:1≤k):
 Calls Tryz.prog 63 #[.pointer (some ⟨gr,0,none⟩),va] w fun e w'=>e=.returned (.bool (memB P Q a))∧Ext w w':=by
 obtain⟨A,la,ca,xs,rfl, -⟩:=hVa.open_
 have hG:=h
 obtain⟨gp,gq,A1,l1,c1,A2,l2,c2,h1,h2,h3,h4,h5⟩:=h
 obtain⟨t,ht⟩:∃t,t=memB P Q a:=⟨_,rfl⟩
 rw[←ht]
 have Ht:=hide ht
 clear ht
 go_enter Tryz.func63,Tryz.ntmps63
 go_wp2_with fail
 refine name_w (fun W hW=>?_)
 have b4:Box W w.heap.size 39 (.slice A la ca):=by rw[hW];exact Box.new _ _ _
 have hE:Ext w W:=by rw[hW];exact(Upd.refl _ w).alloc _
 clear hW
 have hED:Ext w W.drew:=hE.drew
 have q0:=fun y:Wd (Ext W.drew)=>y.ok.cellv (show W.drew.cell? ⟨gr,0,none⟩=some (.pointer (some ⟨gp,0,none⟩)) from(h1.ext hED).at 0 rfl)
 have q9:=fun y:Wd (Ext W.drew)=>y.ok.cellv (show W.drew.cell? ⟨gr,1,none⟩=some (.pointer (some ⟨gq,0,none⟩)) from(h1.ext hED).at 1 rfl)
 have q1:=fun y:Wd (Ext W.drew)=>y.ok.cellv b4.drew.cell
 refine wp_region_plan (Ext _) 30 [(false,0),(false,1),(false,2),(false,3),(true,4),(false,5),(false,6),(false,7),(false,8),(false,9),(true,10),(true,11),(false,12),(false,13),(false,14),(false,15),(false,16),(false,17),(false,18),(false,19),(false,20),(false,21),(false,22),(false,23),(true,24),(true,25),(true,26),(true,27),(false,28),(false,29)] (by kernel_rfl) (by kernel_rfl) (Upd.refl _ _) (fun hne=>?_)
 repeat (refine head_q rfl (fun K hK=>?_);have hK2:=hide hK;clear hK;go_simp;refine hK2.out _ ?_;clear hK2 K)
 by_cases h0:a=0
 · obtain rfl:t=false:=Ht.out.trans (by unfold memB;rw[decide_eq_false (by omega)];rfl)
   refine head_l rfl ?_
   go_wp2_with (go_at_call 11;go_must (refine(zero_any _ a _ (hVa.ext hED)).mono ?_);rintro e w1 ⟨rfl,hU1⟩;rw[decide_eq_true h0])
   refine⟨Cls (Ext _),fun _ h=>h,⟨⟨_,hU1⟩,rfl⟩,?_⟩
   repeat (refine head_q rfl (fun K hK=>?_);have hK2:=hide hK;clear hK;go_simp;refine hK2.out _ ?_;clear hK2 K)
   refine head_l rfl ?_
   go_wp2_with fail
   refine⟨Cls (Ext _),fun _ h=>h,⟨⟨_,hU1⟩,rfl⟩,?_⟩
   repeat (refine head_q rfl (fun K hK=>?_);have hK2:=hide hK;clear hK;go_simp;refine hK2.out _ ?_;clear hK2 K)
   refine head_l rfl ?_
   go_wp2_with fail
   refine⟨Cls (Ext _),fun _ h=>h,⟨⟨_,hU1⟩,rfl⟩,?_⟩
   repeat (refine head_q rfl (fun K hK=>?_);have hK2:=hide hK;clear hK;go_simp;refine hK2.out _ ?_;clear hK2 K)
   refine head_l rfl ?_
   go_wp2_with fail
   refine⟨Cls (Ext _),fun _ h=>h,⟨⟨_,hU1⟩,rfl⟩,?_⟩
   repeat (refine head_q rfl (fun K hK=>?_);have hK2:=hide hK;clear hK;go_simp;refine hK2.out _ ?_;clear hK2 K)
   refine head_l rfl ?_
   go_wp2_with fail
   refine⟨Cls (Ext _),fun _ h=>h,⟨⟨_,hU1⟩,rfl⟩,?_⟩
   repeat (refine head_q rfl (fun K hK=>?_);have hK2:=hide hK;clear hK;go_simp;refine hK2.out _ ?_;clear hK2 K)
   refine head_l rfl ?_
   go_wp2_with fail
   refine⟨Cls (Ext _),fun _ h=>h,⟨⟨_,hU1⟩,rfl⟩,?_⟩
   repeat (refine head_q rfl (fun K hK=>?_);have hK2:=hide hK;clear hK;go_simp;refine hK2.out _ ?_;clear hK2 K)
   refine head_l rfl ?_
   go_wp2_with fail
   refine⟨Cls (Ext _),fun _ h=>h,⟨⟨_,hU1⟩,rfl⟩,?_⟩
   repeat (refine head_q rfl (fun K hK=>?_);have hK2:=hide hK;clear hK;go_simp;refine hK2.out _ ?_;clear hK2 K)
   have hG:=hED.trans hU1
   refine head_nil ?_
   try simp only[List.drop_succ_cons,List.drop_zero]
   go_wp2_with fail
   go_ret
   exact⟨rfl,hG⟩
 refine head_l rfl ?_
 go_wp2_with (go_at_call 11;go_must (refine(zero_any _ a _ (hVa.ext hED)).mono ?_);rintro e w1 ⟨rfl,hU1⟩;rw[decide_eq_false h0])
 refine⟨Cls (Ext _),fun _ h=>h,⟨⟨_,hU1⟩,rfl⟩,?_⟩
 repeat (refine head_q rfl (fun K hK=>?_);have hK2:=hide hK;clear hK;go_simp;refine hK2.out _ ?_;clear hK2 K)
 refine head_l rfl ?_
 go_wp2_with (go_at_call 24;go_must (refine(gP_any gr P Q G H _ (hG.ext (hED.trans hU1))).mono ?_);rintro e w2 ⟨A8,l8,c8,rfl,hV2,hU2⟩;replace hU2:=hU1.trans hU2)
 refine⟨Cls (Ext _),fun _ h=>h,⟨⟨_,hU2⟩,rfl⟩,?_⟩
 repeat (refine head_q rfl (fun K hK=>?_);have hK2:=hide hK;clear hK;go_simp;refine hK2.out _ ?_;clear hK2 K)
 by_cases hlt:a<P
 case neg=>
  obtain rfl:t=false:=Ht.out.trans (by unfold memB;rw[decide_eq_false hlt];simp)
  obtain⟨z,hz,hz0⟩:∃z,cmpI a P=z∧¬z<0:=⟨_,rfl,by unfold cmpI;rw[if_neg hlt];split<;>omega⟩
  have hzd:decide (z<0)=false:=decide_eq_false hz0
  refine head_l rfl ?_
  go_wp2_with (go_at_call 60;go_must (refine(cmp_any _ _ a P k _ (hVa.ext (hED.trans hU2)) hV2 hFa hFP (by omega)).mono ?_);rintro e w3 ⟨rfl,hU3⟩;replace hU3:=hU2.trans hU3;rw[hz])
  refine⟨Cls (Ext _),fun _ h=>h,⟨⟨_,hU3⟩,rfl⟩,?_⟩
  repeat (refine head_q rfl (fun K hK=>?_);have hK2:=hide hK;clear hK;go_simp;refine hK2.out _ ?_;clear hK2 K)
  refine head_l rfl ?_
  go_wp2_with fail
  refine⟨Cls (Ext _),fun _ h=>h,⟨⟨_,hU3⟩,rfl⟩,?_⟩
  repeat (refine head_q rfl (fun K hK=>?_);have hK2:=hide hK;clear hK;go_simp;refine hK2.out _ ?_;clear hK2 K)
  refine head_l rfl ?_
  go_wp2_with fail
  refine⟨Cls (Ext _),fun _ h=>h,⟨⟨_,hU3⟩,rfl⟩,?_⟩
  repeat (refine head_q rfl (fun K hK=>?_);have hK2:=hide hK;clear hK;go_simp;refine hK2.out _ ?_;clear hK2 K)
  refine head_l rfl ?_
  go_wp2_with fail
  refine⟨Cls (Ext _),fun _ h=>h,⟨⟨_,hU3⟩,rfl⟩,?_⟩
  repeat (refine head_q rfl (fun K hK=>?_);have hK2:=hide hK;clear hK;go_simp;refine hK2.out _ ?_;clear hK2 K)
  refine head_l rfl ?_
  go_wp2_with fail
  refine⟨Cls (Ext _),fun _ h=>h,⟨⟨_,hU3⟩,rfl⟩,?_⟩
  repeat (refine head_q rfl (fun K hK=>?_);have hK2:=hide hK;clear hK;go_simp;refine hK2.out _ ?_;clear hK2 K)
  have hG:=hED.trans hU3
  refine head_nil ?_
  try simp only[List.drop_succ_cons,List.drop_zero]
  go_wp2_with fail
  go_ret
  exact⟨rfl,hG⟩
 have hz:cmpI a P= -1:=cmpI_lt hlt
 refine head_l rfl ?_
 go_wp2_with (go_at_call 60;go_must (refine(cmp_any _ _ a P k _ (hVa.ext (hED.trans hU2)) hV2 hFa hFP (by omega)).mono ?_);rintro e w3 ⟨rfl,hU3⟩;replace hU3:=hU2.trans hU3;rw[hz])
 refine⟨Cls (Ext _),fun _ h=>h,⟨⟨_,hU3⟩,rfl⟩,?_⟩
 repeat (refine head_q rfl (fun K hK=>?_);have hK2:=hide hK;clear hK;go_simp;refine hK2.out _ ?_;clear hK2 K)
 refine head_l rfl ?_
 go_wp2_with (go_at_call 25;go_must (refine(mmod_any gq Q _ (h3.ext (hED.trans hU3))).mono ?_);rintro e w4 ⟨A7,l7,c7,rfl,hV4,hU4⟩;replace hU4:=hU3.trans hU4)
 refine⟨Cls (Ext _),fun _ h=>h,⟨⟨_,hU4⟩,rfl⟩,?_⟩
 repeat (refine head_q rfl (fun K hK=>?_);have hK2:=hide hK;clear hK;go_simp;refine hK2.out _ ?_;clear hK2 K)
 refine head_l rfl ?_
 go_wp2_with (go_at_call 67;go_must (refine(mexp_any _ _ gp a Q P k k _ (h2.ext (hED.trans hU4)) (hVa.ext (hED.trans hU4)) hV4 hFa hFP hFQ hk hk).mono ?_);rintro e w5 ⟨A6,l6,c6,rfl,hV5,hU5⟩;have hU5g:=hU4.trans hU5)
 refine⟨Cls (Ext _),fun _ h=>h,⟨⟨_,hU5g⟩,rfl⟩,?_⟩
 repeat (refine head_q rfl (fun K hK=>?_);have hK2:=hide hK;clear hK;go_simp;refine hK2.out _ ?_;clear hK2 K)
 refine head_l rfl ?_
 go_wp2_with (go_at_call 10;go_must (refine(new_any 1 _ (by decide)).mono ?_);rintro e w6 ⟨A5,l5,c5,rfl,hV6,hU6⟩;have hU6g:=hU5g.trans hU6)
 refine⟨Cls (Ext _),fun _ h=>h,⟨⟨_,hU6g⟩,rfl⟩,?_⟩
 repeat (refine head_q rfl (fun K hK=>?_);have hK2:=hide hK;clear hK;go_simp;refine hK2.out _ ?_;clear hK2 K)
 have hFx:Fit k (a^Q % P):=hFP.le (Nat.le_of_lt (Nat.mod_lt _ (by omega)))
 have hF1:Fit k 1:=Fit.mono (by unfold Fit;decide) hk1
 obtain⟨z,hz,hz0⟩:∃z,cmpI (a^Q % P) 1=z∧(z == 0)=t:=⟨_,rfl,(cmpI_one (a^Q % P)).trans (by rw[Ht.out];unfold memB;rw[decide_eq_true (show 0<a by omega),decide_eq_true hlt];rfl)⟩
 refine head_l rfl ?_
 go_wp2_with (go_at_call 60;go_must (refine(cmp_any _ _ (a^Q % P) 1 k _ (hV5.ext hU6) hV6 hFx hF1 (by omega)).mono ?_);rintro e w7 ⟨rfl,hU7⟩;have hU7g:=hU6g.trans hU7;rw[hz])
 refine⟨Cls (Ext _),fun _ h=>h,⟨⟨_,hU7g⟩,rfl⟩,?_⟩
 repeat (refine head_q rfl (fun K hK=>?_);have hK2:=hide hK;clear hK;go_simp;refine hK2.out _ ?_;clear hK2 K)
 have hG:=hED.trans hU7g
 refine head_nil ?_
 try simp only[List.drop_succ_cons,List.drop_zero]
 go_wp2_with fail
 go_ret
 exact⟨rfl,hG⟩
end
end
/- A group, walked: Multi. -/
section
open Go.RowKit
open Nt
attribute [local go_sem] steady steadyUpon Cls same_cell
attribute [local irreducible] wpHead wpTree
theorem prodS_one {bs es:List Nat} {s n P:Nat} (h:prodS bs es s n=1) (hP:2≤P):prodS bs es s n % P=1:=by rw[h,Nat.mod_eq_of_lt (by omega)]
set_option maxRecDepth 100000 in
set_option maxHeartbeats 4000000 in
theorem gMulti_any (gr P Q G H k:Nat) (AB AE:Option Addr) (n cb ce:Nat) (bs es:List Nat) (w:World) (h:GrpV w gr P Q G H) (hB:NatL w AB bs) (hEx:NatL w AE es) (hnb:bs.length=n) (hne:es.length=n)
 (hFb:∀i,i<n→Fit k (gat bs i)) (hFe:∀i,i<n→Fit k (gat es i)) (hFP:Fit k P) (hP2:2≤P) (hk1:1≤k) (hk:k≤50000) (hn:n≤1000):
 Calls Tryz.prog 80 #[.pointer (some ⟨gr,0,none⟩),.slice AB n cb,.slice AE n ce] w (RetE w (prodE bs es n % P) 0):=by
 have HG:=hide h
 have HB:=hide hB
 have HX:=hide hEx
 have Hnb:=hide hnb
 have Hne:=hide hne
 have HFb:=hide hFb
 have HFe:=hide hFe
 clear h hB hEx hnb hne hFb hFe
 go_enter Tryz.func80,Tryz.ntmps80
 go_wp2_with fail
 refine name_w (fun W hW=>?_)
 have b0:Box W w.heap.size 39 (.slice none 0 0):=by rw[hW];exact Box.new _ _ _
 have hE:Ext w W:=by rw[hW];exact(Upd.refl _ w).alloc _
 have HE:=hide hE
 clear hW hE
 go_loopw [27,8] (fun i v wr=>∃(j m:Nat),j≤n∧i=.int .i64 (j:Int)∧v=.int .i64 (m:Int)∧m≤2000000∧Hid (∀q,q<j→blen (gat es q)≤m)∧Ext W wr) (fun i _ _=>n - (intOf i).toNat)
 case atStart=>exact⟨0,0,Nat.zero_le _,rfl,rfl,by omega,hide (fun q hq=>absurd hq (by omega)),Upd.refl _ _⟩
 case round=>
  obtain⟨j,m,hj,rfl,rfl,hm,hbl,hU⟩:=hrel
  by_cases hlt:j<n
  case pos=>
   have hltI:(j:Int)<(n:Int):=by omega
   obtain⟨b,o,B1,l1,c1,rfl,q0,hV⟩:=(HX.out.ext (HE.out.trans hU)).at (i:=j) (by rw[Hne.out];exact hlt)
   have hFj:=HFe.out j hlt
   have hbl2:blen (gat es j)≤32*k:=Fit.blen hFj
   obtain⟨x,hx⟩:∃x,x=gat es j:=⟨_,rfl⟩
   rw[←hx]at hV hFj hbl2
   have Hx:=hide hx
   have HU:=hide hU
   clear hx hU
   go_wp2_with fail
   refine(bits_any _ x k _ (hV.ext (by repeat (first | (with_reducible exact Upd.refl _ _) | (with_reducible assumption) | (refine Upd.setCell ?_ (.inr (by first | exact Nat.le_refl _ | (dsimp only;omega) | (simp;done) | (simp;omega))) _) | (with_reducible refine Upd.alloc ?_ _) | (with_reducible refine Upd.drew ?_) | (with_reducible refine Upd.trans ?_ (by with_reducible assumption))))) hFj (by omega)).mono ?_
   rintro e w2 ⟨rfl,hU2⟩
   obtain⟨bl,hbl3⟩:∃bl,bl=blen x:=⟨_,rfl⟩
   rw[←hbl3]at hbl2 ⊢
   have Hb3:=hide hbl3
   clear hbl3
   have hU3:Ext W w2:=HU.out.trans (Upd.trans (by repeat (first | (with_reducible exact Upd.refl _ _) | (with_reducible assumption) | (refine Upd.setCell ?_ (.inr (by first | exact Nat.le_refl _ | (dsimp only;omega) | (simp;done) | (simp;omega))) _) | (with_reducible refine Upd.alloc ?_ _) | (with_reducible refine Upd.drew ?_) | (with_reducible refine Upd.trans ?_ (by with_reducible assumption)))) hU2)
   have HU3:=hide hU3
   clear hU2 hU3 hV
   by_cases hmx:m≤bl
   · have hmax:max (m:Int) (bl:Int)=(bl:Int):=by omega
     have hmI:(m:Int)≤(bl:Int):=by omega
     go_wp2_with fail
     go_roundw
     case rel=>
      refine⟨j+1,bl,by omega,by go_num,rfl,by omega,hide (fun q hq=>?_),HU3.out⟩
      by_cases hqj:q<j
      · exact Nat.le_trans (hbl.out q hqj) hmx
      · obtain rfl:q=j:=by omega
        rw[←Hx.out,←Hb3.out]
        exact Nat.le_refl _
     case measure=>simp[intOf];omega
   · have hmax:max (m:Int) (bl:Int)=(m:Int):=by omega
     have hmI:¬(m:Int)≤(bl:Int):=by omega
     go_wp2_with fail
     go_roundw
     case rel=>
      refine⟨j+1,m,by omega,by go_num,rfl,by omega,hide (fun q hq=>?_),HU3.out⟩
      by_cases hqj:q<j
      · exact hbl.out q hqj
      · obtain rfl:q=j:=by omega
        rw[←Hx.out,←Hb3.out];omega
     case measure=>simp[intOf];omega
  case neg=>
   obtain rfl:j=n:=by omega
   have hltI:¬((j:Int)<(j:Int)):=by omega
   have HU:=hide hU
   clear hU
   go_wp2_with fail
   refine(new_any 1 _ (by decide)).mono ?_
   rintro e w3 ⟨A3,l3,c3,rfl,hV3,hU3⟩
   have hE3:Ext w w3:=(HE.out.trans HU.out).trans hU3
   have b3:=b0.ext (HU.out.trans hU3)
   clear hU3 HU HE b0
   go_wp2_with fail
   refine name_w (fun W4 hW4=>?_)
   have b11:Box W4 w3.heap.size 39 (.slice A3 l3 c3):=by rw[hW4];exact Box.new _ _ _
   have b6:Box W4 w.heap.size 39 (.slice none 0 0):=by rw[hW4];exact b3.alloc _
   have hE4:Ext w W4:=by rw[hW4];exact hE3.alloc _
   have hV4:NatV W4 (.agg #[.slice A3 l3 c3]) 1:=by rw[hW4];exact hV3.ext ((Upd.refl _ _).alloc _)
   have hz3:w.heap.size<w3.heap.size:=b3.lt
   have hzw:=hE3.size
   clear hW4 hV3 b3
   have hone:prodS bs es m j % P=1:=prodS_one (prodS_top bs es m j hbl.out) hP2
   go_loopw [12] (fun v wr=>∃(i:Nat) (A:Option Addr) (l c:Nat),i≤m∧v=.int .i64 ((i:Int) - 1)∧Box wr w3.heap.size 39 (.slice A l c)∧NatV wr (.agg #[.slice A l c]) (prodS bs es i j % P)∧Box wr w.heap.size 39 (.slice none 0 0)∧Ext w wr) (fun v _=>(intOf v+1).toNat)
   case atStart=>exact⟨m,A3,l3,c3,Nat.le_refl _,rfl,b11,by rw[hone];exact hV4,b6,hE4⟩
   case round=>
    clear b11 hV4 b6 hE4 hone
    obtain⟨i,A,l,c,hi,rfl,b11,hV,b6,hE⟩:=hrel
    by_cases hi0:i=0
    case pos=>
     subst hi0
     have k11:=b11.cell
     have k6:=b6.cell
     have f6:=b6.frozen
     rw[prodS_zero]at hV
     go_wp2_with fail
     have q:=(b6.set (.slice A l c)).cell
     exact bodyPost_ret (v:=.tuple #[.agg #[.slice A l c],.int .i64 0]) (by simp[results,Tryz.results80,go_sem,q]) rfl ⟨_,_,_,rfl,hV.far k6,hE.setCell (p:=⟨w.heap.size,0,none⟩) (.inr (Nat.le_refl _)) _⟩
    case neg=>
     obtain⟨s,rfl⟩:∃s,i=s+1:=⟨i - 1,by omega⟩
     have hs1:((s+1:Nat):Int) - 1=(s:Int):=by omega
     obtain⟨X,hX⟩:∃X,X=prodS bs es (s+1) j:=⟨_,rfl⟩
     rw[←hX]at hV
     have HX2:=hide hX
     clear hX
     have hFX:Fit k (X % P):=hFP.le (Nat.le_of_lt (Nat.mod_lt _ (by omega)))
     obtain⟨gp,gq,B1,m1,d1,B2,m2,d2,h1,h2, -, -, -⟩:=HG.out.ext hE
     rw[hs1]
     have q0:=fun y:Wd (Ext wr.drew)=>y.ok.cellv (show wr.drew.cell? ⟨gr,0,none⟩=some (.pointer (some ⟨gp,0,none⟩)) from h1.at 0 rfl)
     have q1:=fun y:Wd (Ext wr.drew)=>y.ok.cellv b11.drew.cell
     go_wp2_with fail
     refine wp_region_plan (Ext _) 7 [(false,0),(false,1),(false,2),(false,3),(false,4),(false,5),(true,6)] (by kernel_rfl) (by kernel_rfl) (Upd.refl _ _) (fun hne=>?_)
     repeat (refine head_q rfl (fun K hK=>?_);have hK2:=hide hK;clear hK;go_simp;refine hK2.out _ ?_;clear hK2 K)
     refine head_l rfl ?_
     go_wp2_with (go_at_call 79;go_must (refine(mmul_any _ _ gp (X % P) (X % P) P k _ (h2.ext (Upd.refl _ _).drew) (hV.ext (Upd.refl _ _).drew) (hV.ext (Upd.refl _ _).drew) hFX hFX hFP (by omega)).mono ?_);rintro e w5 ⟨A5,l5,c5,rfl,hV5,hU5⟩)
     refine⟨Cls (Ext _),fun _ h=>h,⟨⟨_,hU5⟩,rfl⟩,?_⟩
     repeat (refine head_q rfl (fun K hK=>?_);have hK2:=hide hK;clear hK;go_simp;refine hK2.out _ ?_;clear hK2 K)
     have b11':=b11.ext hU5.undrew
     have b6':=b6.ext hU5.undrew
     have hE5:=hE.trans hU5.undrew
     have z2:=b11'.cell
     have z3:=b11'.frozen
     have b11s:=b11'.set (.slice A5 l5 c5)
     have b6s:=b6'.far (p:=⟨w3.heap.size,0,none⟩) (by show w.heap.size≠w3.heap.size;omega) (.slice A5 l5 c5)
     have hEs:Ext w (w5.setCell ⟨w3.heap.size,0,none⟩ (.slice A5 l5 c5)):=hE5.setCell (p:=⟨w3.heap.size,0,none⟩) (.inr hzw) _
     have hVs:NatV (w5.setCell ⟨w3.heap.size,0,none⟩ (.slice A5 l5 c5)) (.agg #[.slice A5 l5 c5]) (X*X*bitsP bs es s 0 % P):=by
      have e1:X*X*bitsP bs es s 0 % P=X % P*(X % P) % P:=by unfold bitsP;rw[Nat.mul_one,Nat.mul_mod]
      rw[e1];exact hV5.far z2
     clear q0 q1 b11 b6 hE hV h1 h2 hU5 hV5 hE5 b11' b6'
     refine head_nil ?_
     try simp only[List.drop_succ_cons,List.drop_zero]
     go_wp2_with fail
     refine name_w (fun W6 hW6=>?_)
     rw[←hW6]at b11s b6s hEs hVs
     clear hW6 z2 z3
     go_loopw [52] (fun v wr=>∃(q:Nat) (A:Option Addr) (l c:Nat),q≤j∧v=.int .i64 (q:Int)∧Box wr w3.heap.size 39 (.slice A l c)∧NatV wr (.agg #[.slice A l c]) (X*X*bitsP bs es s q % P)∧Box wr w.heap.size 39 (.slice none 0 0)∧Ext w wr) (fun v _=>j - (intOf v).toNat)
     case atStart=>exact⟨0,A5,l5,c5,Nat.zero_le _,rfl,b11s,hVs,b6s,hEs⟩
     case round=>
      clear b11s hVs b6s hEs
      obtain⟨q,A6,l6,c6,hq,rfl,b11,hV,b6,hE⟩:=hrel
      by_cases hqj:q<j
      case neg=>
       obtain rfl:j=q:=by omega
       have hqI:¬((j:Int)<(j:Int)):=by omega
       have hst:X*X*bitsP bs es s j=prodS bs es s j:=by rw[HX2.out];exact(prodS_step bs es s j).symm
       rw[hst]at hV
       go_wp2_with fail
       go_roundw
       case rel=>exact⟨s,A6,l6,c6,by omega,rfl,b11,hV,b6,hE⟩
       case measure=>simp[intOf]<;>omega
      have hqI:(q:Int)<(j:Int):=by omega
      obtain⟨bX,oX,BX,lX,cX,hAX,k0,hVX⟩:=(HX.out.ext hE).at (i:=q) (by rw[Hne.out];exact hqj)
      obtain⟨bB,oB,BB,lB,cB,hAB,k1,hVB⟩:=(HB.out.ext hE).at (i:=q) (by rw[Hnb.out];exact hqj)
      subst hAX hAB
      obtain⟨x,hx⟩:∃x,x=gat es q:=⟨_,rfl⟩
      obtain⟨y,hy⟩:∃y,y=gat bs q:=⟨_,rfl⟩
      have hFx:Fit k x:=by rw[hx];exact HFe.out q hqj
      have hFy:Fit k y:=by rw[hy];exact HFb.out q hqj
      rw[←hx]at hVX
      rw[←hy]at hVB
      have hbs:bitsP bs es s (q+1)=bitsP bs es s q*(if x / 2^s % 2=1 then y else 1):=by rw[hx,hy];rfl
      have Hbs:=hide hbs
      clear hbs hx hy
      have hs9:s≤2000000:=by omega
      go_wp2_with fail
      refine name_c (fun W7 hW7=>?_)
      have hE7:Ext wr W7:=by rw[hW7];exact(Upd.refl _ _).alloc _
      clear hW7
      refine(bit_any _ x k s _ (hVX.ext hE7) hFx (by omega) ⟨by omega,by omega⟩).mono ?_
      rintro e w8 ⟨rfl,hU8⟩
      rw[if_pos (show(0:Int)≤(s:Int) by omega),Int.toNat_natCast]
      have hE8:=hE7.trans hU8
      clear hE7 hU8 hVX
      by_cases hbit:x / 2^s % 2=1
      · rw[hbit]
        have hbs2:bitsP bs es s (q+1)=bitsP bs es s q*y:=by rw[Hbs.out,if_pos hbit]
        have Hbs2:=hide hbs2
        clear hbs2 hbit
        obtain⟨gp,gq,B1,m1,d1,B2,m2,d2,h1,h2, -, -, -⟩:=HG.out.ext (hE.trans hE8)
        have b11':=b11.ext hE8
        have hV':=hV.ext hE8
        have hVB':=hVB.ext hE8
        have k1':=hE8.cellv k1
        have b6':=b6.ext hE8
        have hEw:=hE.trans hE8
        clear b11 hV hVB k1 k0 b6 hE hE8
        obtain⟨V,hV0⟩:∃V,V=X*X*bitsP bs es s q:=⟨_,rfl⟩
        rw[←hV0]at hV'
        have HV0:=hide hV0
        clear hV0
        have hFV:Fit k (V % P):=hFP.le (Nat.le_of_lt (Nat.mod_lt _ (by omega)))
        have q0:=fun y:Wd (Ext w8.drew)=>y.ok.cellv (show w8.drew.cell? ⟨gr,0,none⟩=some (.pointer (some ⟨gp,0,none⟩)) from h1.at 0 rfl)
        have q1:=fun y:Wd (Ext w8.drew)=>y.ok.cellv b11'.drew.cell
        have q2:=fun y:Wd (Ext w8.drew)=>y.ok.cellv (show w8.drew.cell? ⟨bB,oB+q,none⟩=some (.slice BB lB cB) from k1')
        go_wp2_with fail
        refine wp_region_plan (Ext _) 10 [(false,0),(false,1),(false,2),(false,3),(false,4),(false,5),(false,6),(false,7),(false,8),(true,9)] (by kernel_rfl) (by kernel_rfl) (Upd.refl _ _) (fun hne=>?_)
        repeat (refine head_q rfl (fun K hK=>?_);have hK2:=hide hK;clear hK;go_simp;refine hK2.out _ ?_;clear hK2 K)
        refine head_l rfl ?_
        go_wp2_with (go_at_call 79;go_must (refine(mmul_any _ _ gp (V % P) y P k _ (h2.ext (Upd.refl _ _).drew) (hV'.ext (Upd.refl _ _).drew) (hVB'.ext (Upd.refl _ _).drew) hFV hFy hFP (by omega)).mono ?_);rintro e w9 ⟨A9,l9,c9,rfl,hV9,hU9⟩)
        refine⟨Cls (Ext _),fun _ h=>h,⟨⟨_,hU9⟩,rfl⟩,?_⟩
        repeat (refine head_q rfl (fun K hK=>?_);have hK2:=hide hK;clear hK;go_simp;refine hK2.out _ ?_;clear hK2 K)
        have b11n:=b11'.ext hU9.undrew
        have b6n:=b6'.ext hU9.undrew
        have hE9:=hEw.trans hU9.undrew
        have z2:=b11n.cell
        have z3:=b11n.frozen
        have b11s:=b11n.set (.slice A9 l9 c9)
        have b6s:=b6n.far (p:=⟨w3.heap.size,0,none⟩) (by show w.heap.size≠w3.heap.size;omega) (.slice A9 l9 c9)
        have hEs:Ext w (w9.setCell ⟨w3.heap.size,0,none⟩ (.slice A9 l9 c9)):=hE9.setCell (p:=⟨w3.heap.size,0,none⟩) (.inr hzw) _
        have hVs:NatV (w9.setCell ⟨w3.heap.size,0,none⟩ (.slice A9 l9 c9)) (.agg #[.slice A9 l9 c9]) (X*X*bitsP bs es s (q+1) % P):=by
         have e1:X*X*bitsP bs es s (q+1) % P=V % P*y % P:=by rw[Hbs2.out,HV0.out,←Nat.mul_assoc,Nat.mod_mul_mod]
         rw[e1];exact hV9.far z2
        clear q0 q1 q2 b11' b6' hV' hVB' k1' h1 h2 hU9 hV9 hE9 b11n b6n hEw
        refine head_nil ?_
        try simp only[List.drop_succ_cons,List.drop_zero]
        go_wp2_with fail
        go_roundw
        case rel=>exact⟨q+1,A9,l9,c9,by omega,by go_num,b11s,hVs,b6s,hEs⟩
        case measure=>simp[intOf]<;>omega
      · have hb0:x / 2^s % 2=0:=by omega
        rw[hb0]
        have hbs2:bitsP bs es s (q+1)=bitsP bs es s q:=by rw[Hbs.out,if_neg hbit,Nat.mul_one]
        have Hbs2:=hide hbs2
        clear hbs2 hbit hb0
        have b11':=b11.ext hE8
        have hV':=hV.ext hE8
        have b6':=b6.ext hE8
        have hEw:=hE.trans hE8
        clear b11 hV hVB k1 k0 b6 hE hE8
        go_wp2_with fail
        go_roundw
        case rel=>exact⟨q+1,A6,l6,c6,by omega,by go_num,b11',by rw[Hbs2.out];exact hV',b6',hEw⟩
        case measure=>simp[intOf]<;>omega
end
/- Bytes as a number, byte by byte; what rings keep while a block of the call's own is written. -/
section
open Go.RowKit
open Nt
theorem vf_head (β:Nat) (g:Nat→Nat):∀n,vf β g (n+1)=g 0+β*vf β (fun i=>g (i+1)) n
  | 0=>by simp[vf]
  | n+1=>by
    rw[vf_succ (f:=g),vf_head β g n,vf_succ (f:=fun i=>g (i+1)),Nat.mul_add,Nat.pow_succ]
    simp only[Nat.mul_comm,Nat.mul_left_comm,Nat.mul_assoc,Nat.add_assoc,Nat.add_comm,Nat.add_left_comm]
theorem ofB_snoc (bs:List (BitVec 8)) (b:BitVec 8):ofB (bs++[b])=ofB bs*256+b.toNat:=by
 unfold ofB
 rw[List.length_append,List.length_singleton,vf_head]
 have h0:bdig (bs++[b]) 0=b.toNat:=by simp[bdig,dig,d8,gat]
 have h1:vf 256 (fun i=>bdig (bs++[b]) (i+1)) bs.length=vf 256 (bdig bs) bs.length:=vf_congr fun i hi=>by
   unfold bdig
   rw[List.length_append,List.length_singleton,show bs.length+1 - 1 - (i+1)=bs.length - 1 - i by omega]
   unfold dig
   congr 1
   simp only[gat,List.getD_eq_getElem?_getD]
   rw[List.getElem?_append_left (by omega)]
 rw[h0,h1]
 omega
theorem ofB_take {bs:List (BitVec 8)} {j:Nat} (h:j<bs.length):ofB (bs.take (j+1))=ofB (bs.take j)*256+(gat bs j).toNat:=by
 rw[List.take_succ_eq_append_getElem h,ofB_snoc,gat_lt h]
theorem NatV.farV {w:World} {s:Value} {n:Nat} {p:Addr} {u v:Value} (h:NatV w s n) (hc:w.cell? p=some u) (hu:∀x,by32 x≠u):NatV (w.setCell p v) s n:=by
 obtain⟨s,rfl,h⟩:=h
 exact⟨s,rfl,h.far hc hu⟩
theorem RingV.farV {w:World} {g n:Nat} {p:Addr} {u v:Value} (h:RingV w g n) (hg:g≠p.block) (hc:w.cell? p=some u) (hu:∀x,by32 x≠u):RingV (w.setCell p v) g n:=by
 obtain⟨A,l,c,h1,h2,h3⟩:=h
 exact⟨A,l,c,h1.far hg v,h2.farV hc hu,h3⟩
theorem cmpI_le0 (a b:Nat):decide (cmpI a b≤0)=decide (a≤b):=by
 unfold cmpI
 split
 · rw[decide_eq_true (show a≤b by omega)];rfl
 · split
   · rw[decide_eq_true (show a≤b by omega)];rfl
   · rw[decide_eq_false (show ¬a≤b by omega)];rfl
theorem cmpI_ge0 (a b:Nat):decide (0≤cmpI a b)=decide (b≤a):=by
 unfold cmpI
 split
 · rw[decide_eq_false (show ¬b≤a by omega)];rfl
 · split
   · rw[decide_eq_true (show b≤a by omega)];rfl
   · rw[decide_eq_true (show b≤a by omega)];rfl
theorem cmpI_gt0 (a b:Nat):decide (0<cmpI a b)=decide (b<a):=by
 unfold cmpI
 split
 · rw[decide_eq_false (show ¬b<a by omega)];rfl
 · split
   · rw[decide_eq_false (show ¬b<a by omega)];rfl
   · rw[decide_eq_true (show b<a by omega)];rfl
end
end Go.Proofs.YtbhhjfhepkbfgaaGreat
