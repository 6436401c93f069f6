/- The document's boxes, walked: proof, Seal, Open. -/
import Derived.Test.YtdohmikoafkniaaGreatLsTagQ
namespace Go.Proofs.YtdohmikoafkniaaGreat
set_option linter.unusedSimpArgs false
set_option linter.unusedVariables false
open Go.RowKit
open Nt Strm
attribute [local go_sem] steady steadyUpon Cls same_cell by8
attribute [local irreducible] wpHead wpTree
theorem name_l' {P:Program} {ops:Array Oper} {l:List Oper} {Q:Exit→Act→World→Prop} {a:Act} {W:World} (h:∀W',W'=W→wpList P ops Q l a W'):wpList P ops Q l a W:=h W rfl
set_option maxRecDepth 100000 in
set_option maxHeartbeats 2000000 in
theorem rproof_any (A B C D:Option Addr) (c d ns cs n f:Nat) (key nonce side b:List (BitVec 8)) (w:World) (h:BxIn w A B C D c d ns cs n f key nonce side b) (hcs:ns≤cs) (hcf:n≤f) (hcs2:cs≤maxLen) (hcf2:f≤maxLen):
 Calls Tryz.prog 146 #[.slice A 32 c,.slice B 12 d,.slice C ns cs,.slice D n f] w (RetSl w 16 (bxP key nonce side b)):=by
 have H:=hide h
 clear h
 go_enter Tryz.func146,Tryz.ntmps146
 go_wp2_with fail
 refine(refblock_any _ _ _ _ key nonce 0 _ H.out.kl H.out.nl H.out.hc H.out.hd H.out.K H.out.N).mono ?_
 rintro e w1 ⟨A1,c1,rfl, -,hO1,hU1⟩
 have hc1:32≤c1:=by have:=hO1.cap.1;rw[List.length_map,block_length]at this;omega
 have hs32:∀w,(Instr.sliceAt 23 (.slice A1 64 c1) none (some (.int .i64 32)) none).run Tryz.prog w=.ok (.slice A1 32 c1) w:=fun w=>run_cut_h Tryz.n_el8.under Tryz.n_sz8 A1 64 c1 32 .i64 (by omega) w
 have hS1:=hO1.sl.take 32
 have hc1I:(32:Int)≤(c1:Int):=by omega
 clear hO1
 go_wp2_with fail
 refine wp_region_plan (Ext _) 19 [(false,0),(false,1),(false,2),(false,3),(false,4),(false,6),(false,7),(false,8),(false,10),(false,11),(false,13),(false,14),(true,5),(true,9),(true,12),(true,15),(true,16),(true,17),(true,18)] (by kernel_rfl) (by kernel_rfl) (Upd.refl _ _) (fun hne=>?_)
 repeat (refine head_q rfl (fun K hK=>?_);have hK2:=hide hK;clear hK;go_simp;refine hK2.out _ ?_;clear hK2 K)
 have hsb:=H.out.sb
 have hbb:=H.out.bb
 have hp1:=padN_lt ns
 have hp2:=padN_lt n
 refine head_l rfl ?_
 go_wp2_with (refine(fill_any ns _ (by omega)).mono ?_;rintro e w2 ⟨A2,c2,rfl,hO2,hU2⟩)
 refine⟨Cls (Ext _),fun _ h=>h,⟨⟨_,hU2⟩,rfl⟩,?_⟩
 repeat (refine head_q rfl (fun K hK=>?_);have hK2:=hide hK;clear hK;go_simp;refine hK2.out _ ?_;clear hK2 K)
 refine head_l rfl ?_
 go_wp2_with (refine(fill_any n _ (by omega)).mono ?_;rintro e w3 ⟨A3,c3,rfl,hO3,hU3⟩)
 refine⟨Cls (Ext _),fun _ h=>h,⟨⟨_,(hU2.trans hU3)⟩,rfl⟩,?_⟩
 repeat (refine head_q rfl (fun K hK=>?_);have hK2:=hide hK;clear hK;go_simp;refine hK2.out _ ?_;clear hK2 K)
 refine head_l rfl ?_
 go_wp2_with (refine(brsize_any ns _ (by omega)).mono ?_;rintro e w4 ⟨A4,c4,rfl,hO4,hU4⟩)
 refine⟨Cls (Ext _),fun _ h=>h,⟨⟨_,((hU2.trans hU3).trans hU4)⟩,rfl⟩,?_⟩
 repeat (refine head_q rfl (fun K hK=>?_);have hK2:=hide hK;clear hK;go_simp;refine hK2.out _ ?_;clear hK2 K)
 refine head_l rfl ?_
 go_wp2_with (refine(brsize_any n _ (by omega)).mono ?_;rintro e w5 ⟨A5,c5,rfl,hO5,hU5⟩)
 refine⟨Cls (Ext _),fun _ h=>h,⟨⟨_,(((hU2.trans hU3).trans hU4).trans hU5)⟩,rfl⟩,?_⟩
 repeat (refine head_q rfl (fun K hK=>?_);have hK2:=hide hK;clear hK;go_simp;refine hK2.out _ ?_;clear hK2 K)
 have hE5:=((hU2.trans hU3).trans hU4).trans hU5
 have hE25:=(hU3.trans hU4).trans hU5
 have hE35:=hU4.trans hU5
 have c2b:=hO2.cap
 have c3b:=hO3.cap
 have c4b:=hO4.cap
 have c5b:=hO5.cap
 rw[List.length_map,nul_length]at c2b c3b
 rw[List.length_map,le8_length]at c4b c5b
 have hT2:=hO2.sl.ext hE25
 have hT3:=hO3.sl.ext hE35
 have hT4:=hO4.sl.ext hU5
 have hT5:=hO5.sl
 have hE05:Ext w w5:=hU1.trans hE5.undrew
 have hTs:=H.out.S.ext hE05
 have hTb:=H.out.X.ext hE05
 have hS1':=hS1.ext hE5.undrew
 clear hO2 hO3 hO4 hO5 hU2 hU3 hU4 hU5 hE25 hE35
 refine head_l rfl ?_
 go_wp2_with fail
 refine⟨Cls (Ext _),fun _ h=>h,⟨⟨_,(hE5.alloc _)⟩,rfl⟩,?_⟩
 repeat (refine head_q rfl (fun K hK=>?_);have hK2:=hide hK;clear hK;go_simp;refine hK2.out _ ?_;clear hK2 K)
 obtain⟨ps,hps⟩:∃ps:List Pt,ps=[⟨C,ns,cs,side⟩,⟨A2,padN ns,c2,nul (padN ns)⟩,⟨D,n,f,b⟩,⟨A3,padN n,c3,nul (padN n)⟩,⟨A4,8,c4,le8 ns⟩,⟨A5,8,c5,le8 n⟩]:=⟨_,rfl⟩
 refine head_l rfl ?_
 refine name_l' (fun W hW=>?_)
 have hE5W:Ext w5 W:=by rw[hW];exact(Upd.refl _ _).alloc _
 have hSp:Sl Pt.val W (some ⟨w5.heap.size,0,none⟩) ps:=by rw[hW,hps];exact Sl.new Pt.val w5 23 _
 have hPs:Pts W (some ⟨w5.heap.size,0,none⟩) ps:=by
  refine⟨hSp,fun i hi=>?_⟩
  rw[hps]at hi ⊢
  match i,hi with
  | 0,_=>exact⟨hTs.ext hE5W,H.out.sl,hcs,hcs2⟩
  | 1,_=>exact⟨hT2.ext hE5W,nul_length _,c2b.1,c2b.2⟩
  | 2,_=>exact⟨hTb.ext hE5W,H.out.bl,hcf,hcf2⟩
  | 3,_=>exact⟨hT3.ext hE5W,nul_length _,c3b.1,c3b.2⟩
  | 4,_=>exact⟨hT4.ext hE5W,rfl,c4b.1,c4b.2⟩
  | 5,_=>exact⟨hT5.ext hE5W,rfl,c5b.1,c5b.2⟩
  | k+6,h=>exact absurd h (by simp)
 have hfl:flat ps=boxD side b:=by
  rw[hps]
  unfold flat boxD
  simp only[List.flatMap_cons,List.flatMap_nil,List.append_nil,List.append_assoc,H.out.sl,H.out.bl]
 have hpl:ps.length=6:=by rw[hps];rfl
 have hE5':=hE5.trans hE5W
 have hS1W:=hS1'.ext hE5W
 have hE0W:=hE05.trans hE5W
 obtain⟨N,hN⟩:∃N,N=(boxD side b).length:=⟨_,rfl⟩
 have hNb:N≤5000:=by rw[hN,boxD_length];have h1:=padN_lt side.length;have h2:=padN_lt b.length;rw[H.out.sl]at h1 ⊢;rw[H.out.bl]at h2 ⊢;omega
 have HN:=hide hN
 clear hps hSp hT2 hT3 hT4 hT5 hTs hTb c2b c3b c4b c5b hE5 hE05 hS1' hE5W hW hN
 go_wp2_with fail
 refine(join_any _ 6 6 ps N _ hPs hpl (by rw[hfl,HN.out]) (by omega) (by unfold maxLen;omega)).mono ?_
 rintro e w6 ⟨A6,c6,rfl,hO6,hU6⟩
 rw[hfl]at hO6
 have hc6:=hO6.cap.1
 rw[List.length_map,←HN.out]at hc6
 have hS6:=hO6.sl
 have hE6:=hE5'.trans hU6
 have hS16:=hS1W.ext hU6
 clear hPs hfl hpl hO6 hE5' hS1W
 go_wp2_with fail
 refine⟨Cls (Ext _),fun _ h=>h,⟨⟨_,hE6⟩,rfl⟩,?_⟩
 repeat (refine head_q rfl (fun K hK=>?_);have hK2:=hide hK;clear hK;go_simp;refine hK2.out _ ?_;clear hK2 K)
 refine head_l rfl ?_
 go_wp2_with (refine(prtag_any A1 A6 c1 N c6 ((block key 0 nonce).take 32) (boxD side b) _ (blk32_length _ _ _) HN.out.symm hc1 hc6 (by omega) hS16 hS6).mono ?_;rintro e w7 ⟨A7,c7,rfl,hcp,hS7,hU7⟩)
 refine⟨Cls (Ext _),fun _ h=>h,⟨⟨_,(hE6.trans hU7)⟩,rfl⟩,?_⟩
 repeat (refine head_q rfl (fun K hK=>?_);have hK2:=hide hK;clear hK;go_simp;refine hK2.out _ ?_;clear hK2 K)
 have hE7:Ext w w7:=(hE0W.trans hU6).trans hU7
 clear hE6 hS16 hS6
 refine head_nil ?_
 try simp only[List.drop_succ_cons,List.drop_zero]
 go_wp2_with fail
 go_ret
 exact⟨_,_,rfl,hcp,hS7,hE7⟩
set_option maxRecDepth 100000 in
set_option maxHeartbeats 2000000 in
theorem rseal_any (A B C D:Option Addr) (c d ns cs n f:Nat) (key nonce side b:List (BitVec 8)) (w:World) (h:BxIn w A B C D c d ns cs n f key nonce side b) (hcs:ns≤cs) (hcs2:cs≤maxLen):
 Calls Tryz.prog 87 #[.slice A 32 c,.slice B 12 d,.slice C ns cs,.slice D n f] w (RetSl w (n+16) (bxS key nonce side b)):=by
 have H:=hide h
 clear h
 go_enter Tryz.func87,Tryz.ntmps87
 go_wp2_with fail
 refine(refxor_any _ _ _ _ _ _ _ key nonce b 1 _ H.out.kl H.out.nl H.out.hc H.out.hd H.out.K H.out.N H.out.bl.symm (by have:=H.out.bb;omega) H.out.X).mono ?_
 rintro e w1 ⟨A1,c1,rfl, -,hO1,hU1⟩
 obtain⟨x,hx⟩:∃x,x=xors key 1 nonce b:=⟨_,rfl⟩
 have hxl:x.length=n:=by rw[hx,xors_length];exact H.out.bl
 rw[←hx]at hO1
 have Hx:=hide hx
 have Hxl:=hide hxl
 have hcc:=hO1.cap
 rw[List.length_map,hxl]at hcc
 have hS1:=hO1.sl
 clear hx hxl hO1
 go_wp2_with fail
 have H1:=H.out.ext hU1
 refine(rproof_any A B C A1 c d ns cs n c1 key nonce side x _ ⟨H1.kl,H1.nl,H1.hc,H1.hd,H1.K,H1.N,H1.sl,H1.sb,H1.S,Hxl.out,H1.bb,hS1⟩ hcs hcc.1 hcs2 hcc.2).mono ?_
 rintro e w2 ⟨A2,c2,rfl,hc2,hS2,hU2⟩
 have hE2:=hU1.trans hU2
 have hbb:=H1.bb
 have hS12:=hS1.ext hU2
 clear H1 hS1 hU2 hU1
 go_wp2_with fail
 refine name_c (fun W hW=>?_)
 obtain⟨ps,hps⟩:∃ps:List Pt,ps=[⟨A1,n,c1,x⟩,⟨A2,16,c2,bxP key nonce side x⟩]:=⟨_,rfl⟩
 have hE2W:Ext w2 W:=by rw[hW];exact(Upd.refl _ _).alloc _
 have hSp:Sl Pt.val W (some ⟨w2.heap.size,0,none⟩) ps:=by rw[hW,hps];exact Sl.new Pt.val w2 23 _
 have hPs:Pts W (some ⟨w2.heap.size,0,none⟩) ps:=by
  refine⟨hSp,fun i hi=>?_⟩
  rw[hps]at hi ⊢
  match i,hi with
  | 0,_=>exact⟨hS12.ext hE2W,Hxl.out,hcc.1,hcc.2⟩
  | 1,_=>exact⟨hS2.ext hE2W,bxP_length _ _ _ _,hc2.1,hc2.2⟩
  | k+2,h=>exact absurd h (by simp)
 have hfl:flat ps=bxS key nonce side b:=by
  rw[hps]
  unfold flat bxS
  simp only[List.flatMap_cons,List.flatMap_nil,List.append_nil,Hx.out]
 have hpl:ps.length=2:=by rw[hps];rfl
 have hE:=hE2.trans hE2W
 have hlen:(bxS key nonce side b).length=n+16:=by rw[bxS_length,H.out.bl]
 clear hps hSp hS12 hS2 hcc hc2 hE2 hE2W hW
 refine(join_any _ 2 2 ps (n+16) _ hPs hpl (by rw[hfl,hlen]) (by omega) (by unfold maxLen;omega)).mono ?_
 rintro e w6 ⟨A6,c6,rfl,hO6,hU6⟩
 rw[hfl]at hO6
 have hcp:=hO6.cap
 rw[List.length_map,hlen]at hcp
 have hS6:=hO6.sl
 have hE6:=hE.trans hU6
 clear hPs hfl hpl hlen hO6
 go_wp2_with fail
 go_ret
 exact⟨_,_,rfl,hcp,hS6,hE6⟩
def RetRO (w:World) (n:Nat) (o:Option (List (BitVec 8))) (e:Ending) (w':World):Prop:=
 match o with
 | some bs=>∃A c,e=.returned (.tuple #[.slice A n c,.int .i64 0])∧Sl by8 w' A bs∧Ext w w'
 | none=>RetBxE w 7 e w'
theorem ropen_short (A B C D:Option Addr) (c d ns cs l f:Nat) (w:World) (h:l<16):
 Calls Tryz.prog 85 #[.slice A 32 c,.slice B 12 d,.slice C ns cs,.slice D l f] w (RetBxE w 3):=by
 have h1:(l:Int)<16:=by omega
 have hr:rightB 32 12=true:=rfl
 go_enter Tryz.func85,Tryz.ntmps85
 go_wp2_with fail
 refine(right_any _ _ _ _ _ _ _).mono ?_
 rintro e w' ⟨rfl,rfl⟩
 go_wp2_with fail
 go_ret2
 exact⟨rfl,Upd.refl _ _⟩
set_option maxRecDepth 100000 in
set_option maxHeartbeats 2000000 in
theorem ropen_any (A B C D:Option Addr) (c d ns cs n f:Nat) (key nonce side b:List (BitVec 8)) (w:World) (h:BxIn w A B C D c d ns cs (n+16) f key nonce side b) (hf:n+16≤f) (hcs:ns≤cs) (hcs2:cs≤maxLen) (hf2:f≤maxLen):
 Calls Tryz.prog 85 #[.slice A 32 c,.slice B 12 d,.slice C ns cs,.slice D (n+16:Nat) f] w (RetRO w n (bxO key nonce side b)):=by
 have H:=hide h
 have hr:rightB 32 12=true:=rfl
 obtain⟨o,ho⟩:∃o,o=bxO key nonce side b:=⟨_,rfl⟩
 rw[←ho]
 have hn:=h.bb
 have h1:¬((n+16:Nat):Int)<16:=by omega
 have h2:((n+16:Nat):Int) - 16=(n:Int):=by omega
 have h3:(n:Int)+16 - 16=(n:Int):=by omega
 have hs1:∀w,(Instr.sliceAt 23 (.slice D (n+16) f) none (some (.int .i64 (n:Int))) none).run Tryz.prog w=.ok (.slice D n f) w:=fun w=>run_cut_h Tryz.n_el8.under Tryz.n_sz8 D (n+16) f n .i64 (by omega) w
 have hs2:∀w,(Instr.sliceAt 23 (.slice D (n+16) f) (some (.int .i64 (n:Int))) none none).run Tryz.prog w=.ok (.slice (shA D f n) 16 (f - n)) w:=fun w=>by
   have:=run_cut_l Tryz.n_el8.under Tryz.n_sz8 D (n+16) f n .i64 (by omega) w
   rw[show n+16 - n=16 by omega]at this
   exact this
 have H1:=H.out
 obtain⟨x,hx⟩:∃x,x=b.take n:=⟨_,rfl⟩
 obtain⟨t,ht⟩:∃t,t=b.drop n:=⟨_,rfl⟩
 have hxl:x.length=n:=by rw[hx,List.length_take,H1.bl];omega
 have htl:t.length=16:=by rw[ht,List.length_drop,H1.bl];omega
 have hX:Sl by8 w D x:=by rw[hx];exact H1.X.take n
 have hT:Sl by8 w (shA D f n) t:=by rw[ht];exact H1.X.shA (by rw[H1.bl];exact hf)
 have hO:bxO key nonce side b=if bxP key nonce side x=t then some (xors key 1 nonce x) else none:=by
   unfold bxO
   rw[H1.bl,Nat.add_sub_cancel,←hx,←ht]
 rw[hO]at ho
 have Hxl:=hide hxl
 have Htl:=hide htl
 have HX:=hide hX
 have HT:=hide hT
 have Ho:=hide ho
 clear hx ht hxl htl hX hT hO H1 ho h
 go_enter Tryz.func85,Tryz.ntmps85
 go_wp2_with fail
 refine(right_any _ _ _ _ _ _ _).mono ?_
 rintro e w' ⟨rfl,rfl⟩
 go_wp2_with fail
 have hct:=nstr_cls (c:=f - n) (HT.out.ext (Upd.refl _ w).drew) Htl.out
 have hwn:IntKind.i64.wrap (n:Int)=(n:Int):=IntWalk.i64_in _ (by omega)
 refine wp_region_plan (Ext _) 12 [(false,0),(false,1),(false,2),(false,3),(false,6),(false,7),(false,8),(false,9),(false,10),(false,11),(true,4),(false,5)] (by kernel_rfl) (by kernel_rfl) (Upd.refl _ _) (fun hne=>?_)
 repeat (refine head_q rfl (fun K hK=>?_);have hK2:=hide hK;clear hK;go_simp;refine hK2.out _ ?_;clear hK2 K)
 refine head_l rfl ?_
 go_wp2_with (refine(rproof_any A B C D c d ns cs n f key nonce side x _ ⟨H.out.kl,H.out.nl,H.out.hc,H.out.hd,H.out.K.ext (Upd.refl _ _).drew,H.out.N.ext (Upd.refl _ _).drew,H.out.sl,H.out.sb,H.out.S.ext (Upd.refl _ _).drew,Hxl.out,by omega,HX.out.ext (Upd.refl _ _).drew⟩ hcs (by omega) hcs2 hf2).mono ?_;rintro e w1 ⟨A1,c1,rfl, -,hS1,hU1⟩)
 refine⟨Cls (Ext _),cls_narrow hU1,⟨⟨_,Upd.refl _ _⟩,rfl⟩,?_⟩
 have hcp:=nstr_cls (c:=c1) hS1 (bxP_length key nonce side x)
 have hE1:Ext w w1:=hU1.undrew
 repeat (refine head_q rfl (fun K hK=>?_);have hK2:=hide hK;clear hK;go_simp;refine hK2.out _ ?_;clear hK2 K)
 clear hcp hct hwn hU1 hS1
 refine head_nil ?_
 try simp only[List.drop_succ_cons,List.drop_zero]
 by_cases hc:bxP key nonce side x=t
 · obtain rfl:o=some (xors key 1 nonce x):=Ho.out.trans (if_pos hc)
   subst hc
   go_wp2_with fail
   refine(refxor_any _ _ _ _ _ _ _ key nonce x 1 _ H.out.kl H.out.nl H.out.hc H.out.hd (H.out.K.ext hE1) (H.out.N.ext hE1) Hxl.out.symm (by omega) (HX.out.ext hE1)).mono ?_
   rintro e w3 ⟨A3,c3,rfl, -,hO3,hU3⟩
   have hS3:=hO3.sl
   have hE3:=hE1.trans hU3
   clear hU3 hO3 hE1
   go_wp2_with fail
   go_ret2
   show ∃A c,_
   exact⟨_,_,rfl,hS3,hE3⟩
 · obtain rfl:o=none:=Ho.out.trans (if_neg hc)
   have hcb:((str (bxP key nonce side x)).toList == (str t).toList)=false:=by rw[str_eq];exact decide_eq_false hc
   go_wp2_with fail
   go_ret2
   show RetBxE w 7 _ _
   exact⟨rfl,hE1⟩
end Go.Proofs.YtdohmikoafkniaaGreat
