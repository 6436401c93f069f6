/- A group, walked: New. -/
import Derived.Test.YtbhhjfhepkbfgaaGnGrps
import Derived.Test.YtbhhjfhepkbfgaaGnMacR
import Derived.Test.YtbhhjfhepkbfgaaGnCertP
namespace Go.Proofs.Ytbhhjfhepkbfgaa
set_option linter.unusedSimpArgs false
set_option linter.unusedVariables false
open Go.RowKit
open Nt
attribute [local go_sem] steady steadyUpon Cls same_cell
attribute [local irreducible] wpHead wpTree
set_option maxRecDepth 100000 in
theorem glong_any (v:Value) (n k:Nat) (w:World) (hV:NatV w v n) (hF:Fit k n) (hk:k≤1000000):
 Calls Try.prog 26 #[v] w fun e w'=>e=.returned (.bool (decide (1024<blen n)))∧Ext w w':=by
 obtain⟨A,l,c,xs,rfl, -⟩:=hV.open_
 obtain⟨t,ht⟩:∃t,t=decide (1024<blen n):=⟨_,rfl⟩
 rw[←ht]
 have Ht:=hide ht
 clear ht
 go_enter Try.func26,Try.ntmps26
 go_wp2_with fail
 refine(bits_any _ n k _ (hV.ext (by repeat (first | (with_reducible exact Upd.refl _ _) | (with_reducible assumption) | (refine Upd.setCell ?_ (.inr (by first | exact Nat.le_refl _ | (dsimp only;omega) | (simp;done) | (simp;omega))) _) | (with_reducible refine Upd.alloc ?_ _) | (with_reducible refine Upd.drew ?_) | (with_reducible refine Upd.trans ?_ (by with_reducible assumption))))) hF hk).mono ?_
 rintro e w1 ⟨rfl,hU⟩
 have hE:Ext w w1:=Upd.trans (by repeat (first | (with_reducible exact Upd.refl _ _) | (with_reducible assumption) | (refine Upd.setCell ?_ (.inr (by first | exact Nat.le_refl _ | (dsimp only;omega) | (simp;done) | (simp;omega))) _) | (with_reducible refine Upd.alloc ?_ _) | (with_reducible refine Upd.drew ?_) | (with_reducible refine Upd.trans ?_ (by with_reducible assumption)))) hU
 obtain⟨b,hb⟩:∃b,b=blen n:=⟨_,rfl⟩
 rw[←hb]at Ht ⊢
 have Hb:=hide hb
 clear hb hU
 by_cases hl:1024<b
 · have hlI:(1024:Int)<(b:Int):=by omega
   have hld:decide ((1024:Int)<(b:Int))=true:=decide_eq_true hlI
   obtain rfl:t=true:=by rw[Ht.out];exact decide_eq_true hl
   go_wp2_with fail
   go_ret
   exact⟨rfl,hE⟩
 · have hlI:¬(1024:Int)<(b:Int):=by omega
   have hld:decide ((1024:Int)<(b:Int))=false:=decide_eq_false hlI
   obtain rfl:t=false:=by rw[Ht.out];exact decide_eq_false hl
   go_wp2_with fail
   go_ret
   exact⟨rfl,hE⟩
def RetGNew (w:World) (P Q G:Nat) (r:Int × Nat) (e:Ending) (w':World):Prop:=
 Ext w w'∧(r.1≠0→e=.returned (.tuple #[.pointer none,.int .i64 r.1]))∧(r.1=0→∃gr,e=.returned (.tuple #[.pointer (some ⟨gr,0,none⟩),.int .i64 0])∧GrpV w' gr P Q G r.2)
structure GnI (w0 w:World) (gp g1:Nat) (Ap:Option Addr) (lp cp:Nat) (Aq:Option Addr) (lq cq:Nat) (Ag:Option Addr) (lg cg:Nat) (As:Option Addr) (ls cs:Nat) (A1:Option Addr) (l1 c1 P Q G:Nat) (sd:List (BitVec 8)) (AS:Option Addr) (ss:List St):Prop where
 pars:Blk w gp 49 #[.slice Ap lp cp,.slice Aq lq cq,.slice Ag lg cg,.slice As ls cs]
 one:Box w g1 33 (.slice A1 l1 c1)
 vP:NatV w (.agg #[.slice Ap lp cp]) P
 vQ:NatV w (.agg #[.slice Aq lq cq]) Q
 vG:NatV w (.agg #[.slice Ag lg cg]) G
 v1:NatV w (.agg #[.slice A1 l1 c1]) 1
 seed:Sl by8 w As sd
 steps:StepL w AS ss
 ext:Ext w0 w
theorem GnI.step {w0 w w':World} {gp g1:Nat} {Ap:Option Addr} {lp cp:Nat} {Aq:Option Addr} {lq cq:Nat} {Ag:Option Addr} {lg cg:Nat} {As:Option Addr} {ls cs:Nat} {A1:Option Addr} {l1 c1 P Q G:Nat} {sd:List (BitVec 8)} {AS:Option Addr} {ss:List St}
 (h:GnI w0 w gp g1 Ap lp cp Aq lq cq Ag lg cg As ls cs A1 l1 c1 P Q G sd AS ss) (hu:Ext w w'):GnI w0 w' gp g1 Ap lp cp Aq lq cq Ag lg cg As ls cs A1 l1 c1 P Q G sd AS ss:=
 ⟨h.pars.ext hu,h.one.ext hu,h.vP.ext hu,h.vQ.ext hu,h.vG.ext hu,h.v1.ext hu,h.seed.ext hu,h.steps.ext hu,h.ext.trans hu⟩
theorem Ext.undrew' {w w':World} (h:Ext w.drew w'):Ext w w':=h.undrew
set_option maxRecDepth 100000 in
set_option maxHeartbeats 4000000 in
theorem gNew_any (Ap:Option Addr) (lp cp:Nat) (Aq:Option Addr) (lq cq:Nat) (Ag:Option Addr) (lg cg:Nat) (As:Option Addr) (ls cs P Q G k:Nat) (sd:List (BitVec 8)) (AS:Option Addr) (n c:Nat) (ss:List St) (w:World)
 (hP:NatV w (.agg #[.slice Ap lp cp]) P) (hQ:NatV w (.agg #[.slice Aq lq cq]) Q) (hG:NatV w (.agg #[.slice Ag lg cg]) G) (hS:Sl by8 w As sd) (hsl:sd.length=ls) (hsc:ls≤cs) (hsm:cs≤maxLen) (hL:StepL w AS ss) (hn:ss.length=n) (hn2:n≤1000)
 (hFP:Fit k P) (hFQ:Fit k Q) (hFG:Fit k G) (hFs:∀i,i<ss.length→FitS k (gat ss i)) (hk1:1≤k) (hk:k≤1000):
 Calls Try.prog 8 #[.agg #[.slice Ap lp cp,.slice Aq lq cq,.slice Ag lg cg,.slice As ls cs],.slice AS n c] w (RetGNew w P Q G (newG P Q G sd ss)):=by
 have Hsl:=hide hsl
 have Hsc:=hide (And.intro hsc hsm)
 have Hn:=hide hn
 have HFs:=hide hFs
 have hls9:ls≤9223372036854775807:=by unfold maxLen at hsm;omega
 clear hsl hsc hsm hn hFs
 go_enter Try.func8,Try.ntmps8
 go_wp2_with fail
 refine name_c (fun W hW=>?_)
 have hbp:Blk W w.heap.size 49 #[.slice Ap lp cp,.slice Aq lq cq,.slice Ag lg cg,.slice As ls cs]:=by rw[hW];exact Blk.new _ _ _
 have hE:Ext w W:=by rw[hW];exact(Upd.refl _ _).alloc _
 clear hW
 refine(new_any 1 _ (by decide)).mono ?_
 rintro e w1 ⟨A1,l1,c1,rfl,hV1,hU1⟩
 have hE1:=hE.trans hU1
 have hEa:Ext w1 (w1.alloc (.cells #[.slice A1 l1 c1] 33)):=(Upd.refl _ _).alloc _
 have I1:GnI w (w1.alloc (.cells #[.slice A1 l1 c1] 33)) w.heap.size w1.heap.size Ap lp cp Aq lq cq Ag lg cg As ls cs A1 l1 c1 P Q G sd AS ss:=
  ⟨(hbp.ext hU1).ext hEa,Box.new _ _ _,(hP.ext hE1).ext hEa,(hQ.ext hE1).ext hEa,(hG.ext hE1).ext hEa,hV1.ext hEa,(hS.ext hE1).ext hEa,(hL.ext hE1).ext hEa,hE1.trans hEa⟩
 clear hbp hE hU1 hE1 hEa hV1 hP hQ hG hS hL
 have kp:=(I1).pars.at 0 rfl
 have kq:=(I1).pars.at 1 rfl
 have kg:=(I1).pars.at 2 rfl
 have ks:=(I1).pars.at 3 rfl
 have k1:=(I1).one.cell
 go_wp2_with fail
 refine(glong_any _ P k _ I1.vP hFP (by omega)).mono ?_
 rintro e w2 ⟨rfl,hU⟩
 have I2:=(I1).step hU
 clear hU kp kq kg ks k1
 have kp:=(I2).pars.at 0 rfl
 have kq:=(I2).pars.at 1 rfl
 have kg:=(I2).pars.at 2 rfl
 have ks:=(I2).pars.at 3 rfl
 have k1:=(I2).one.cell
 by_cases hlP:1024<blen P
 · rw[decide_eq_true hlP]
   have hr:newG P Q G sd ss=(4,0):=by unfold newG;rw[if_pos (.inl hlP)]
   have hEf:=(I2).ext
   have Hr:=hide hr
   clear hr kp kq kg k1
   go_wp2_with fail
   refine bodyPost_ret (v:=.tuple #[.pointer none,.int .i64 4]) ?_ rfl ?_
   · simp[results,Try.results8,go_sem]
   · rw[Hr.out];exact⟨hEf,fun _=>rfl,fun h=>by cases h⟩
 rw[decide_eq_false hlP]
 go_wp2_with fail
 refine(glong_any _ Q k _ I2.vQ hFQ (by omega)).mono ?_
 rintro e w3 ⟨rfl,hU⟩
 have I3:=(I2).step hU
 clear hU kp kq kg ks k1
 have kp:=(I3).pars.at 0 rfl
 have kq:=(I3).pars.at 1 rfl
 have kg:=(I3).pars.at 2 rfl
 have ks:=(I3).pars.at 3 rfl
 have k1:=(I3).one.cell
 by_cases hlQ:1024<blen Q
 · rw[decide_eq_true hlQ]
   have hr:newG P Q G sd ss=(4,0):=by unfold newG;rw[if_pos (.inr (.inl hlQ))]
   have hEf:=(I3).ext
   have Hr:=hide hr
   clear hr kp kq kg k1
   go_wp2_with fail
   refine bodyPost_ret (v:=.tuple #[.pointer none,.int .i64 4]) ?_ rfl ?_
   · simp[results,Try.results8,go_sem]
   · rw[Hr.out];exact⟨hEf,fun _=>rfl,fun h=>by cases h⟩
 rw[decide_eq_false hlQ]
 go_wp2_with fail
 refine(glong_any _ G k _ I3.vG hFG (by omega)).mono ?_
 rintro e w4 ⟨rfl,hU⟩
 have I4:=(I3).step hU
 clear hU kp kq kg ks k1
 have kp:=(I4).pars.at 0 rfl
 have kq:=(I4).pars.at 1 rfl
 have kg:=(I4).pars.at 2 rfl
 have ks:=(I4).pars.at 3 rfl
 have k1:=(I4).one.cell
 by_cases hlG:1024<blen G
 · rw[decide_eq_true hlG]
   have hr:newG P Q G sd ss=(4,0):=by unfold newG;rw[if_pos (.inr (.inr (.inl hlG)))]
   have hEf:=(I4).ext
   have Hr:=hide hr
   clear hr kp kq kg k1
   go_wp2_with fail
   refine bodyPost_ret (v:=.tuple #[.pointer none,.int .i64 4]) ?_ rfl ?_
   · simp[results,Try.results8,go_sem]
   · rw[Hr.out];exact⟨hEf,fun _=>rfl,fun h=>by cases h⟩
 rw[decide_eq_false hlG]
 by_cases hls:128<ls
 · have hlsI:(128:Int)<(ls:Int):=by omega
   have hlsd:decide ((128:Int)<(ls:Int))=true:=decide_eq_true hlsI
   have hr:newG P Q G sd ss=(4,0):=by unfold newG;rw[if_pos (.inr (.inr (.inr (by rw[Hsl.out];exact hls))))]
   have hEf:=(I4).ext
   have Hr:=hide hr
   clear hr kp kq kg k1
   go_wp2_with fail
   refine bodyPost_ret (v:=.tuple #[.pointer none,.int .i64 4]) ?_ rfl ?_
   · simp[results,Try.results8,go_sem]
   · rw[Hr.out];exact⟨hEf,fun _=>rfl,fun h=>by cases h⟩
 have hlsI:¬(128:Int)<(ls:Int):=by omega
 have hlsd:decide ((128:Int)<(ls:Int))=false:=decide_eq_false hlsI
 have hN4:¬(1024<blen P∨1024<blen Q∨1024<blen G∨128<sd.length):=by rw[Hsl.out];rintro(h | h | h | h);exact hlP h;exact hlQ h;exact hlG h;exact hls h
 have HN4:=hide hN4
 clear hN4 hlP hlQ hlG
 go_wp2_with fail
 refine(cprime_any _ P k AS n c ss _ I4.vP hFP I4.steps Hn.out hn2 HFs.out hk1 hk).mono ?_
 rintro e w5 ⟨rfl,hU⟩
 have I5:=(I4).step hU
 clear hU kp kq kg ks k1
 have kp:=(I5).pars.at 0 rfl
 have kq:=(I5).pars.at 1 rfl
 have kg:=(I5).pars.at 2 rfl
 have ks:=(I5).pars.at 3 rfl
 have k1:=(I5).one.cell
 cases hpP:primeB P ss with
 | false=>
   have hr:newG P Q G sd ss=(8,0):=by unfold newG;rw[if_neg HN4.out,if_pos (fun h=>by rw[hpP]at h;cases h.1)]
   have hEf:=(I5).ext
   have Hr:=hide hr
   clear hr kp kq kg k1
   go_wp2_with fail
   refine bodyPost_ret (v:=.tuple #[.pointer none,.int .i64 8]) ?_ rfl ?_
   · simp[results,Try.results8,go_sem]
   · rw[Hr.out];exact⟨hEf,fun _=>rfl,fun h=>by cases h⟩
 | true=>
   go_wp2_with fail
   refine(cprime_any _ Q k AS n c ss _ I5.vQ hFQ I5.steps Hn.out hn2 HFs.out hk1 hk).mono ?_
   rintro e w6 ⟨rfl,hU⟩
   have I6:=(I5).step hU
   clear hU kp kq kg ks k1
   have kp:=(I6).pars.at 0 rfl
   have kq:=(I6).pars.at 1 rfl
   have kg:=(I6).pars.at 2 rfl
   have ks:=(I6).pars.at 3 rfl
   have k1:=(I6).one.cell
   cases hpQ:primeB Q ss with
   | false=>
     have hr:newG P Q G sd ss=(8,0):=by unfold newG;rw[if_neg HN4.out,if_pos (fun h=>by rw[hpQ]at h;cases h.2)]
     have hEf:=(I6).ext
     have Hr:=hide hr
     clear hr kp kq kg k1
     go_wp2_with fail
     refine bodyPost_ret (v:=.tuple #[.pointer none,.int .i64 8]) ?_ rfl ?_
     · simp[results,Try.results8,go_sem]
     · rw[Hr.out];exact⟨hEf,fun _=>rfl,fun h=>by cases h⟩
   | true=>
     have hP2:2≤P:=(primeB_pr hpP).1
     have hQ2:2≤Q:=(primeB_pr hpQ).1
     have HpP:=hide hpP
     have HpQ:=hide hpQ
     have hF1:Fit k 1:=Fit.mono (by unfold Fit;decide) hk1
     clear hpP hpQ
     go_wp2_with fail
     refine(sub_any _ _ P 1 k _ I6.vP I6.v1 hFP hF1 (by omega)).mono ?_
     rw[if_neg (show ¬P<1 by omega)]
     rintro e w7 ⟨A7,l7,c7,rfl,hV7,hU⟩
     have hEa:Ext w7 (w7.alloc (.cells #[.slice A7 l7 c7] 33)):=(Upd.refl _ _).alloc _
     have I7:=(I6.step hU).step hEa
     have b7:Box (w7.alloc (.cells #[.slice A7 l7 c7] 33)) w7.heap.size 33 (.slice A7 l7 c7):=Box.new _ _ _
     replace hV7:=hV7.ext hEa
     clear hU kp kq kg ks k1
     have kb7:=b7.cell
     have kp:=(I7).pars.at 0 rfl
     have kq:=(I7).pars.at 1 rfl
     have kg:=(I7).pars.at 2 rfl
     have ks:=(I7).pars.at 3 rfl
     have k1:=(I7).one.cell
     go_wp2_with fail
     refine(div_any _ _ (P - 1) Q k _ hV7 I7.vQ (hFP.le (by omega)) hFQ (by omega) (by omega)).mono ?_
     rintro e w8 ⟨A8,l8,c8,A9,l9,c9,rfl,hV8,hV9,hU⟩
     have I8:=I7.step hU
     clear hU hEa I6 I7 b7 hV7 kb7 kp kq kg ks k1
     go_wp2_with fail
     refine name_w (fun W9 hW9=>?_)
     have hEa:Ext w8 W9:=by rw[hW9];exact((Upd.refl _ _).alloc _).alloc _
     have I9:=I8.step hEa
     have b9:Box W9 w8.heap.size 33 (.slice A8 l8 c8):=by rw[hW9];exact(Box.new _ _ _).alloc _
     have b10:Box W9 (w8.heap.size+1) 33 (.slice A9 l9 c9):=by rw[hW9];exact Box.new_at (by simp)
     replace hV8:=hV8.ext hEa
     replace hV9:=hV9.ext hEa
     clear hW9 hEa I8
     have q1:=fun y:Wd (Ext W9.drew)=>y.ok.cellv b10.drew.cell
     have q2:=fun y:Wd (Ext W9.drew)=>y.ok.cellv (show W9.drew.cell? ⟨w.heap.size,1,none⟩=some (.slice Aq lq cq) from I9.pars.at 1 rfl)
     have q3:=fun y:Wd (Ext W9.drew)=>y.ok.cellv (show W9.drew.cell? ⟨w.heap.size,2,none⟩=some (.slice Ag lg cg) from I9.pars.at 2 rfl)
     have q4:=fun y:Wd (Ext W9.drew)=>y.ok.cellv I9.one.drew.cell
     have q5:=fun y:Wd (Ext W9.drew)=>y.ok.cellv (show W9.drew.cell? ⟨w.heap.size,0,none⟩=some (.slice Ap lp cp) from I9.pars.at 0 rfl)
     have hF64:Fit k 64:=Fit.mono (by unfold Fit;decide) hk1
     obtain⟨zq,hzq,hzqd⟩:∃z,cmpI Q 64=z∧decide (z≤0)=decide (Q≤64):=⟨_,rfl,cmpI_le0 Q 64⟩
     obtain⟨zg,hzg,hzgd⟩:∃z,cmpI G 1=z∧decide (z≤0)=decide (G≤1):=⟨_,rfl,cmpI_le0 G 1⟩
     obtain⟨zp,hzp,hzpd⟩:∃z,cmpI G P=z∧decide (0≤z)=decide (P≤G):=⟨_,rfl,cmpI_ge0 G P⟩
     by_cases hr0:(P - 1) % Q=0
     case neg=>
      have hz0:decide ((P - 1) % Q=0)=false:=decide_eq_false hr0
      refine wp_region_plan (Ext _) 24 [(false,0),(true,1),(false,2),(false,3),(false,4),(false,5),(true,6),(true,7),(false,8),(false,9),(false,10),(false,11),(false,12),(false,13),(true,14),(false,15),(false,16),(false,17),(false,18),(false,19),(false,20),(false,21),(true,22),(false,23)] (by kernel_rfl) (by kernel_rfl) (Upd.refl _ _) (fun hne=>?_)
      repeat (refine head_q rfl (fun K hK=>?_);have hK2:=hide hK;clear hK;go_simp;refine hK2.out _ ?_;clear hK2 K)
      refine head_l rfl ?_
      go_wp2_with (go_at_call 30;go_must (refine(zero_any _ ((P - 1) % Q) _ (hV9.ext (Upd.refl _ _).drew)).mono ?_);rintro e x1 ⟨rfl,hU1⟩;rw[hz0])
      refine⟨Cls (Ext _),fun _ h=>h,⟨⟨_,hU1⟩,rfl⟩,?_⟩
      repeat (refine head_q rfl (fun K hK=>?_);have hK2:=hide hK;clear hK;go_simp;refine hK2.out _ ?_;clear hK2 K)
      refine head_l rfl ?_
      go_wp2_with fail
      refine⟨Cls (Ext _),fun _ h=>h,⟨⟨_,hU1⟩,rfl⟩,?_⟩
      repeat (refine head_q rfl (fun K hK=>?_);have hK2:=hide hK;clear hK;go_simp;refine hK2.out _ ?_;clear hK2 K)
      refine head_l rfl ?_
      go_wp2_with fail
      refine⟨Cls (Ext _),fun _ h=>h,⟨⟨_,hU1⟩,rfl⟩,?_⟩
      repeat (refine head_q rfl (fun K hK=>?_);have hK2:=hide hK;clear hK;go_simp;refine hK2.out _ ?_;clear hK2 K)
      refine head_l rfl ?_
      go_wp2_with fail
      refine⟨Cls (Ext _),fun _ h=>h,⟨⟨_,hU1⟩,rfl⟩,?_⟩
      repeat (refine head_q rfl (fun K hK=>?_);have hK2:=hide hK;clear hK;go_simp;refine hK2.out _ ?_;clear hK2 K)
      refine head_l rfl ?_
      go_wp2_with fail
      refine⟨Cls (Ext _),fun _ h=>h,⟨⟨_,hU1⟩,rfl⟩,?_⟩
      repeat (refine head_q rfl (fun K hK=>?_);have hK2:=hide hK;clear hK;go_simp;refine hK2.out _ ?_;clear hK2 K)
      have hr:newG P Q G sd ss=(1,0):=by
       unfold newG
       rw[if_neg HN4.out,if_neg (fun h=>h ⟨HpP.out,HpQ.out⟩),if_pos (by first | exact .inl hr0 | exact .inr (.inl hr0) | exact .inr (.inr (.inl hr0)) | exact .inr (.inr (.inr hr0)))]
      have hEf:=I9.ext.trans (Ext.undrew' hU1)
      have Hr:=hide hr
      clear hr
      refine head_nil ?_
      try simp only[List.drop_succ_cons,List.drop_zero]
      go_wp2_with fail
      refine bodyPost_ret (v:=.tuple #[.pointer none,.int .i64 1]) ?_ rfl ?_
      · simp[results,Try.results8,go_sem]
      · rw[Hr.out];exact⟨hEf,fun _=>rfl,fun h=>by cases h⟩
     have hz0:decide ((P - 1) % Q=0)=true:=decide_eq_true hr0
     by_cases hq64:Q≤64
     case pos=>
      rw[decide_eq_true hq64]at hzqd
      refine wp_region_plan (Ext _) 24 [(false,0),(true,1),(false,2),(false,3),(false,4),(false,5),(true,6),(true,7),(false,8),(false,9),(false,10),(false,11),(false,12),(false,13),(true,14),(false,15),(false,16),(false,17),(false,18),(false,19),(false,20),(false,21),(true,22),(false,23)] (by kernel_rfl) (by kernel_rfl) (Upd.refl _ _) (fun hne=>?_)
      repeat (refine head_q rfl (fun K hK=>?_);have hK2:=hide hK;clear hK;go_simp;refine hK2.out _ ?_;clear hK2 K)
      refine head_l rfl ?_
      go_wp2_with (go_at_call 30;go_must (refine(zero_any _ ((P - 1) % Q) _ (hV9.ext (Upd.refl _ _).drew)).mono ?_);rintro e x1 ⟨rfl,hU1⟩;rw[hz0])
      refine⟨Cls (Ext _),fun _ h=>h,⟨⟨_,hU1⟩,rfl⟩,?_⟩
      repeat (refine head_q rfl (fun K hK=>?_);have hK2:=hide hK;clear hK;go_simp;refine hK2.out _ ?_;clear hK2 K)
      refine head_l rfl ?_
      go_wp2_with (go_at_call 6;go_must (refine(new_any 64 _ (by decide)).mono ?_);rintro e x2 ⟨B2,m2,d2,rfl,hV64,hU2⟩;replace hU2:=hU1.trans hU2)
      refine⟨Cls (Ext _),fun _ h=>h,⟨⟨_,hU2⟩,rfl⟩,?_⟩
      repeat (refine head_q rfl (fun K hK=>?_);have hK2:=hide hK;clear hK;go_simp;refine hK2.out _ ?_;clear hK2 K)
      refine head_l rfl ?_
      go_wp2_with (go_at_call 20;go_must (refine(cmp_any _ _ Q 64 k _ ((I9.vQ.ext (Upd.refl _ _).drew).ext hU2) hV64 hFQ hF64 (by omega)).mono ?_);rintro e x3 ⟨rfl,hU3⟩;replace hU3:=hU2.trans hU3;rw[hzq])
      refine⟨Cls (Ext _),fun _ h=>h,⟨⟨_,hU3⟩,rfl⟩,?_⟩
      repeat (refine head_q rfl (fun K hK=>?_);have hK2:=hide hK;clear hK;go_simp;refine hK2.out _ ?_;clear hK2 K)
      refine head_l rfl ?_
      go_wp2_with fail
      refine⟨Cls (Ext _),fun _ h=>h,⟨⟨_,hU3⟩,rfl⟩,?_⟩
      repeat (refine head_q rfl (fun K hK=>?_);have hK2:=hide hK;clear hK;go_simp;refine hK2.out _ ?_;clear hK2 K)
      refine head_l rfl ?_
      go_wp2_with fail
      refine⟨Cls (Ext _),fun _ h=>h,⟨⟨_,hU3⟩,rfl⟩,?_⟩
      repeat (refine head_q rfl (fun K hK=>?_);have hK2:=hide hK;clear hK;go_simp;refine hK2.out _ ?_;clear hK2 K)
      have hr:newG P Q G sd ss=(1,0):=by
       unfold newG
       rw[if_neg HN4.out,if_neg (fun h=>h ⟨HpP.out,HpQ.out⟩),if_pos (by first | exact .inl hq64 | exact .inr (.inl hq64) | exact .inr (.inr (.inl hq64)) | exact .inr (.inr (.inr hq64)))]
      have hEf:=I9.ext.trans (Ext.undrew' hU3)
      have Hr:=hide hr
      clear hr
      refine head_nil ?_
      try simp only[List.drop_succ_cons,List.drop_zero]
      go_wp2_with fail
      refine bodyPost_ret (v:=.tuple #[.pointer none,.int .i64 1]) ?_ rfl ?_
      · simp[results,Try.results8,go_sem]
      · rw[Hr.out];exact⟨hEf,fun _=>rfl,fun h=>by cases h⟩
     rw[decide_eq_false hq64]at hzqd
     by_cases hg1:G≤1
     case pos=>
      rw[decide_eq_true hg1]at hzgd
      refine wp_region_plan (Ext _) 24 [(false,0),(true,1),(false,2),(false,3),(false,4),(false,5),(true,6),(true,7),(false,8),(false,9),(false,10),(false,11),(false,12),(false,13),(true,14),(false,15),(false,16),(false,17),(false,18),(false,19),(false,20),(false,21),(true,22),(false,23)] (by kernel_rfl) (by kernel_rfl) (Upd.refl _ _) (fun hne=>?_)
      repeat (refine head_q rfl (fun K hK=>?_);have hK2:=hide hK;clear hK;go_simp;refine hK2.out _ ?_;clear hK2 K)
      refine head_l rfl ?_
      go_wp2_with (go_at_call 30;go_must (refine(zero_any _ ((P - 1) % Q) _ (hV9.ext (Upd.refl _ _).drew)).mono ?_);rintro e x1 ⟨rfl,hU1⟩;rw[hz0])
      refine⟨Cls (Ext _),fun _ h=>h,⟨⟨_,hU1⟩,rfl⟩,?_⟩
      repeat (refine head_q rfl (fun K hK=>?_);have hK2:=hide hK;clear hK;go_simp;refine hK2.out _ ?_;clear hK2 K)
      refine head_l rfl ?_
      go_wp2_with (go_at_call 6;go_must (refine(new_any 64 _ (by decide)).mono ?_);rintro e x2 ⟨B2,m2,d2,rfl,hV64,hU2⟩;replace hU2:=hU1.trans hU2)
      refine⟨Cls (Ext _),fun _ h=>h,⟨⟨_,hU2⟩,rfl⟩,?_⟩
      repeat (refine head_q rfl (fun K hK=>?_);have hK2:=hide hK;clear hK;go_simp;refine hK2.out _ ?_;clear hK2 K)
      refine head_l rfl ?_
      go_wp2_with (go_at_call 20;go_must (refine(cmp_any _ _ Q 64 k _ ((I9.vQ.ext (Upd.refl _ _).drew).ext hU2) hV64 hFQ hF64 (by omega)).mono ?_);rintro e x3 ⟨rfl,hU3⟩;replace hU3:=hU2.trans hU3;rw[hzq])
      refine⟨Cls (Ext _),fun _ h=>h,⟨⟨_,hU3⟩,rfl⟩,?_⟩
      repeat (refine head_q rfl (fun K hK=>?_);have hK2:=hide hK;clear hK;go_simp;refine hK2.out _ ?_;clear hK2 K)
      refine head_l rfl ?_
      go_wp2_with (go_at_call 20;go_must (refine(cmp_any _ _ G 1 k _ ((I9.vG.ext (Upd.refl _ _).drew).ext hU3) ((I9.v1.ext (Upd.refl _ _).drew).ext hU3) hFG hF1 (by omega)).mono ?_);rintro e x4 ⟨rfl,hU4⟩;replace hU4:=hU3.trans hU4;rw[hzg])
      refine⟨Cls (Ext _),fun _ h=>h,⟨⟨_,hU4⟩,rfl⟩,?_⟩
      repeat (refine head_q rfl (fun K hK=>?_);have hK2:=hide hK;clear hK;go_simp;refine hK2.out _ ?_;clear hK2 K)
      refine head_l rfl ?_
      go_wp2_with fail
      refine⟨Cls (Ext _),fun _ h=>h,⟨⟨_,hU4⟩,rfl⟩,?_⟩
      repeat (refine head_q rfl (fun K hK=>?_);have hK2:=hide hK;clear hK;go_simp;refine hK2.out _ ?_;clear hK2 K)
      have hr:newG P Q G sd ss=(1,0):=by
       unfold newG
       rw[if_neg HN4.out,if_neg (fun h=>h ⟨HpP.out,HpQ.out⟩),if_pos (by first | exact .inl hg1 | exact .inr (.inl hg1) | exact .inr (.inr (.inl hg1)) | exact .inr (.inr (.inr hg1)))]
      have hEf:=I9.ext.trans (Ext.undrew' hU4)
      have Hr:=hide hr
      clear hr
      refine head_nil ?_
      try simp only[List.drop_succ_cons,List.drop_zero]
      go_wp2_with fail
      refine bodyPost_ret (v:=.tuple #[.pointer none,.int .i64 1]) ?_ rfl ?_
      · simp[results,Try.results8,go_sem]
      · rw[Hr.out];exact⟨hEf,fun _=>rfl,fun h=>by cases h⟩
     rw[decide_eq_false hg1]at hzgd
     by_cases hgp:P≤G
     case pos=>
      rw[decide_eq_true hgp]at hzpd
      refine wp_region_plan (Ext _) 24 [(false,0),(true,1),(false,2),(false,3),(false,4),(false,5),(true,6),(true,7),(false,8),(false,9),(false,10),(false,11),(false,12),(false,13),(true,14),(false,15),(false,16),(false,17),(false,18),(false,19),(false,20),(false,21),(true,22),(false,23)] (by kernel_rfl) (by kernel_rfl) (Upd.refl _ _) (fun hne=>?_)
      repeat (refine head_q rfl (fun K hK=>?_);have hK2:=hide hK;clear hK;go_simp;refine hK2.out _ ?_;clear hK2 K)
      refine head_l rfl ?_
      go_wp2_with (go_at_call 30;go_must (refine(zero_any _ ((P - 1) % Q) _ (hV9.ext (Upd.refl _ _).drew)).mono ?_);rintro e x1 ⟨rfl,hU1⟩;rw[hz0])
      refine⟨Cls (Ext _),fun _ h=>h,⟨⟨_,hU1⟩,rfl⟩,?_⟩
      repeat (refine head_q rfl (fun K hK=>?_);have hK2:=hide hK;clear hK;go_simp;refine hK2.out _ ?_;clear hK2 K)
      refine head_l rfl ?_
      go_wp2_with (go_at_call 6;go_must (refine(new_any 64 _ (by decide)).mono ?_);rintro e x2 ⟨B2,m2,d2,rfl,hV64,hU2⟩;replace hU2:=hU1.trans hU2)
      refine⟨Cls (Ext _),fun _ h=>h,⟨⟨_,hU2⟩,rfl⟩,?_⟩
      repeat (refine head_q rfl (fun K hK=>?_);have hK2:=hide hK;clear hK;go_simp;refine hK2.out _ ?_;clear hK2 K)
      refine head_l rfl ?_
      go_wp2_with (go_at_call 20;go_must (refine(cmp_any _ _ Q 64 k _ ((I9.vQ.ext (Upd.refl _ _).drew).ext hU2) hV64 hFQ hF64 (by omega)).mono ?_);rintro e x3 ⟨rfl,hU3⟩;replace hU3:=hU2.trans hU3;rw[hzq])
      refine⟨Cls (Ext _),fun _ h=>h,⟨⟨_,hU3⟩,rfl⟩,?_⟩
      repeat (refine head_q rfl (fun K hK=>?_);have hK2:=hide hK;clear hK;go_simp;refine hK2.out _ ?_;clear hK2 K)
      refine head_l rfl ?_
      go_wp2_with (go_at_call 20;go_must (refine(cmp_any _ _ G 1 k _ ((I9.vG.ext (Upd.refl _ _).drew).ext hU3) ((I9.v1.ext (Upd.refl _ _).drew).ext hU3) hFG hF1 (by omega)).mono ?_);rintro e x4 ⟨rfl,hU4⟩;replace hU4:=hU3.trans hU4;rw[hzg])
      refine⟨Cls (Ext _),fun _ h=>h,⟨⟨_,hU4⟩,rfl⟩,?_⟩
      repeat (refine head_q rfl (fun K hK=>?_);have hK2:=hide hK;clear hK;go_simp;refine hK2.out _ ?_;clear hK2 K)
      refine head_l rfl ?_
      go_wp2_with (go_at_call 20;go_must (refine(cmp_any _ _ G P k _ ((I9.vG.ext (Upd.refl _ _).drew).ext hU4) ((I9.vP.ext (Upd.refl _ _).drew).ext hU4) hFG hFP (by omega)).mono ?_);rintro e x5 ⟨rfl,hU5⟩;replace hU5:=hU4.trans hU5;rw[hzp])
      refine⟨Cls (Ext _),fun _ h=>h,⟨⟨_,hU5⟩,rfl⟩,?_⟩
      repeat (refine head_q rfl (fun K hK=>?_);have hK2:=hide hK;clear hK;go_simp;refine hK2.out _ ?_;clear hK2 K)
      have hr:newG P Q G sd ss=(1,0):=by
       unfold newG
       rw[if_neg HN4.out,if_neg (fun h=>h ⟨HpP.out,HpQ.out⟩),if_pos (by first | exact .inl hgp | exact .inr (.inl hgp) | exact .inr (.inr (.inl hgp)) | exact .inr (.inr (.inr hgp)))]
      have hEf:=I9.ext.trans (Ext.undrew' hU5)
      have Hr:=hide hr
      clear hr
      refine head_nil ?_
      try simp only[List.drop_succ_cons,List.drop_zero]
      go_wp2_with fail
      refine bodyPost_ret (v:=.tuple #[.pointer none,.int .i64 1]) ?_ rfl ?_
      · simp[results,Try.results8,go_sem]
      · rw[Hr.out];exact⟨hEf,fun _=>rfl,fun h=>by cases h⟩
     rw[decide_eq_false hgp]at hzpd
     refine wp_region_plan (Ext _) 24 [(false,0),(true,1),(false,2),(false,3),(false,4),(false,5),(true,6),(true,7),(false,8),(false,9),(false,10),(false,11),(false,12),(false,13),(true,14),(false,15),(false,16),(false,17),(false,18),(false,19),(false,20),(false,21),(true,22),(false,23)] (by kernel_rfl) (by kernel_rfl) (Upd.refl _ _) (fun hne=>?_)
     repeat (refine head_q rfl (fun K hK=>?_);have hK2:=hide hK;clear hK;go_simp;refine hK2.out _ ?_;clear hK2 K)
     refine head_l rfl ?_
     go_wp2_with (go_at_call 30;go_must (refine(zero_any _ ((P - 1) % Q) _ (hV9.ext (Upd.refl _ _).drew)).mono ?_);rintro e x1 ⟨rfl,hU1⟩;rw[hz0])
     refine⟨Cls (Ext _),fun _ h=>h,⟨⟨_,hU1⟩,rfl⟩,?_⟩
     repeat (refine head_q rfl (fun K hK=>?_);have hK2:=hide hK;clear hK;go_simp;refine hK2.out _ ?_;clear hK2 K)
     refine head_l rfl ?_
     go_wp2_with (go_at_call 6;go_must (refine(new_any 64 _ (by decide)).mono ?_);rintro e x2 ⟨B2,m2,d2,rfl,hV64,hU2⟩;replace hU2:=hU1.trans hU2)
     refine⟨Cls (Ext _),fun _ h=>h,⟨⟨_,hU2⟩,rfl⟩,?_⟩
     repeat (refine head_q rfl (fun K hK=>?_);have hK2:=hide hK;clear hK;go_simp;refine hK2.out _ ?_;clear hK2 K)
     refine head_l rfl ?_
     go_wp2_with (go_at_call 20;go_must (refine(cmp_any _ _ Q 64 k _ ((I9.vQ.ext (Upd.refl _ _).drew).ext hU2) hV64 hFQ hF64 (by omega)).mono ?_);rintro e x3 ⟨rfl,hU3⟩;replace hU3:=hU2.trans hU3;rw[hzq])
     refine⟨Cls (Ext _),fun _ h=>h,⟨⟨_,hU3⟩,rfl⟩,?_⟩
     repeat (refine head_q rfl (fun K hK=>?_);have hK2:=hide hK;clear hK;go_simp;refine hK2.out _ ?_;clear hK2 K)
     refine head_l rfl ?_
     go_wp2_with (go_at_call 20;go_must (refine(cmp_any _ _ G 1 k _ ((I9.vG.ext (Upd.refl _ _).drew).ext hU3) ((I9.v1.ext (Upd.refl _ _).drew).ext hU3) hFG hF1 (by omega)).mono ?_);rintro e x4 ⟨rfl,hU4⟩;replace hU4:=hU3.trans hU4;rw[hzg])
     refine⟨Cls (Ext _),fun _ h=>h,⟨⟨_,hU4⟩,rfl⟩,?_⟩
     repeat (refine head_q rfl (fun K hK=>?_);have hK2:=hide hK;clear hK;go_simp;refine hK2.out _ ?_;clear hK2 K)
     refine head_l rfl ?_
     go_wp2_with (go_at_call 20;go_must (refine(cmp_any _ _ G P k _ ((I9.vG.ext (Upd.refl _ _).drew).ext hU4) ((I9.vP.ext (Upd.refl _ _).drew).ext hU4) hFG hFP (by omega)).mono ?_);rintro e x5 ⟨rfl,hU5⟩;replace hU5:=hU4.trans hU5;rw[hzp])
     refine⟨Cls (Ext _),fun _ h=>h,⟨⟨_,hU5⟩,rfl⟩,?_⟩
     repeat (refine head_q rfl (fun K hK=>?_);have hK2:=hide hK;clear hK;go_simp;refine hK2.out _ ?_;clear hK2 K)
     have hE9:=Ext.undrew' hU5
     have IA:=I9.step hE9
     replace b9:=b9.ext hE9
     replace hV8:=hV8.ext hE9
     clear hU5 q1 q2 q3 q4 q5 hzqd hzgd hzpd hz0 hE9 b10 hV9 I9
     refine head_nil ?_
     try simp only[List.drop_succ_cons,List.drop_zero]
     have hNA:¬((P - 1) % Q≠0∨Q≤64∨G≤1∨P≤G):=by omega
     have HNA:=hide hNA
     clear hNA
     have q2:=fun y:Wd (Ext x5.drew)=>y.ok.cellv (show x5.drew.cell? ⟨w.heap.size,2,none⟩=some (.slice Ag lg cg) from IA.pars.at 2 rfl)
     have q5:=fun y:Wd (Ext x5.drew)=>y.ok.cellv (show x5.drew.cell? ⟨w.heap.size,0,none⟩=some (.slice Ap lp cp) from IA.pars.at 0 rfl)
     obtain⟨sz,hsz⟩:∃sz,sz=byteSz P:=⟨_,rfl⟩
     have hbl1:blen P≤1024:=by have:=HN4.out;omega
     have hsz1:((blen P:Nat):Int)+7=((blen P+7:Nat):Int):=by omega
     have hsz2:(((blen P:Nat):Int)+7).tdiv 8=(sz:Int):=by rw[hsz1,hsz];unfold byteSz;rfl
     have hsz3:(((blen P:Nat):Int)+7) / 8=(sz:Int):=by rw[hsz1,hsz];unfold byteSz;rfl
     have hsz4:sz≤128:=by rw[hsz];unfold byteSz;omega
     obtain⟨bl,hbl⟩:∃bl,bl=blen P:=⟨_,rfl⟩
     rw[←hbl]at hsz2 hsz3 hbl1
     have Hbl:=hide hbl
     have Hsz:=hide hsz
     clear hbl hsz hsz1
     go_wp2_with fail
     refine wp_region_plan (Ext _) 9 [(false,0),(false,1),(false,2),(false,3),(true,4),(false,5),(false,6),(false,7),(true,8)] (by kernel_rfl) (by kernel_rfl) (Upd.refl _ _) (fun hne=>?_)
     repeat (refine head_q rfl (fun K hK=>?_);have hK2:=hide hK;clear hK;go_simp;refine hK2.out _ ?_;clear hK2 K)
     refine head_l rfl ?_
     go_wp2_with (go_at_call 31;go_must (refine(bits_any _ P k _ (IA.vP.ext (Upd.refl _ _).drew) hFP (by omega)).mono ?_);rintro e wb ⟨rfl,hUb⟩;rw[←Hbl.out])
     refine⟨Cls (Ext _),fun _ h=>h,⟨⟨_,hUb⟩,rfl⟩,?_⟩
     repeat (refine head_q rfl (fun K hK=>?_);have hK2:=hide hK;clear hK;go_simp;refine hK2.out _ ?_;clear hK2 K)
     refine head_l rfl ?_
     go_wp2_with fail
     refine⟨Cls (Ext _),fun _ h=>h,⟨⟨_,(hUb.alloc _)⟩,rfl⟩,?_⟩
     repeat (refine head_q rfl (fun K hK=>?_);have hK2:=hide hK;clear hK;go_simp;refine hK2.out _ ?_;clear hK2 K)
     have hEb:=Ext.undrew' hUb
     have IB:=IA.step hEb
     replace b9:=b9.ext hEb
     replace hV8:=hV8.ext hEb
     clear hUb hEb q2 q5 IA
     refine head_nil ?_
     try simp only[List.drop_succ_cons,List.drop_zero]
     have hgz:=IB.ext.size
     have hEal:Ext wb (wb.alloc (.cells #[.pointer none,.pointer none,.slice Ag lg cg,.slice none 0 0,.int .i64 (sz:Int)] 79)):=(Upd.refl _ _).alloc _
     have kb:(wb.alloc (.cells #[.pointer none,.pointer none,.slice Ag lg cg,.slice none 0 0,.int .i64 (sz:Int)] 79)).cell? ⟨w.heap.size,0,none⟩=some (.slice Ap lp cp):=(IB.pars.ext hEal).at 0 rfl
     clear hEal
     go_wp2_with fail
     clear kb
     refine name_c (fun Wc hWc=>?_)
     have bg:Blk Wc wb.heap.size 79 #[.pointer none,.pointer none,.slice Ag lg cg,.slice none 0 0,.int .i64 (sz:Int)]:=by rw[hWc];exact Blk.new _ _ _
     have hEc:Ext wb Wc:=by rw[hWc];exact(Upd.refl _ _).alloc _
     clear hWc
     have hcz:wb.heap.size<Wc.heap.size:=bg.lt
     refine(mnew_yes _ P k _ (IB.vP.ext hEc) hFP (by omega) hP2).mono ?_
     rintro e wd ⟨gp,rfl,hRp,hgp,hUd⟩
     have bgd:=bg.ext hUd
     have hEd:=hEc.trans hUd
     have z0:=bgd.at 0 rfl
     have z1:=bgd.frozen 0
     have kq:=(IB.pars.ext hEd).at 1 rfl
     clear bg hUd hEc
     have bge:=bgd.set 0 (.pointer (some ⟨gp,0,none⟩))
     have hRe:=hRp.farV (v:=.pointer (some ⟨gp,0,none⟩)) (p:=⟨wb.heap.size,0,none⟩) (by show gp≠wb.heap.size;omega) z0 (fun x e=>by cases e)
     have hEe:Ext wb (wd.setCell ⟨wb.heap.size,0,none⟩ (.pointer (some ⟨gp,0,none⟩))):=hEd.setCell (p:=⟨wb.heap.size,0,none⟩) (.inr (Nat.le_refl _)) _
     have ke:(wd.setCell ⟨wb.heap.size,0,none⟩ (.pointer (some ⟨gp,0,none⟩))).cell? ⟨w.heap.size,1,none⟩=some (.slice Aq lq cq):=(IB.pars.ext hEe).at 1 rfl
     clear bgd hRp hEd kq
     go_wp2_with fail
     refine name_c (fun We hWe=>?_)
     rw[←hWe]at bge hRe hEe ke
     have hez:wb.heap.size<We.heap.size:=bge.lt
     clear hWe z0 z1
     refine(mnew_yes _ Q k _ (IB.vQ.ext hEe) hFQ (by omega) hQ2).mono ?_
     rintro e wf ⟨gq,rfl,hRq,hgq,hUf⟩
     have bgf:=bge.ext hUf
     have hRf:=hRe.ext hUf
     have hEf:=hEe.trans hUf
     have z0:=bgf.at 1 rfl
     have z1:=bgf.frozen 1
     clear bge hUf hEe ke hRe
     have bgg:=bgf.set 1 (.pointer (some ⟨gq,0,none⟩))
     have hRg1:=hRf.farV (v:=.pointer (some ⟨gq,0,none⟩)) (p:=⟨wb.heap.size,1,none⟩) (by show gp≠wb.heap.size;omega) z0 (fun x e=>by cases e)
     have hRg2:=hRq.farV (v:=.pointer (some ⟨gq,0,none⟩)) (p:=⟨wb.heap.size,1,none⟩) (by show gq≠wb.heap.size;omega) z0 (fun x e=>by cases e)
     have hEg:Ext wb (wf.setCell ⟨wb.heap.size,1,none⟩ (.pointer (some ⟨gq,0,none⟩))):=hEf.setCell (p:=⟨wb.heap.size,1,none⟩) (.inr (Nat.le_refl _)) _
     have kg:(wf.setCell ⟨wb.heap.size,1,none⟩ (.pointer (some ⟨gq,0,none⟩))).cell? ⟨w.heap.size,2,none⟩=some (.slice Ag lg cg):=(IB.pars.ext hEg).at 2 rfl
     clear bgf hRf hRq hEf
     go_wp2_with fail
     refine name_c (fun Wg hWg=>?_)
     rw[←hWg]at bgg hRg1 hRg2 hEg
     clear hWg z0 z1 kg
     have hGV:GrpV Wg wb.heap.size P Q G 0:=⟨gp,gq,Ag,lg,cg,none,0,0,by rw[←Hsz.out];exact bgg,hRg1,hRg2,IB.vG.ext hEg,NatV.nil _⟩
     refine(gMember_any wb.heap.size P Q G 0 k Wg _ G hGV (IB.vG.ext hEg) hFG hFP hFQ (by omega) hk1).mono ?_
     rintro e wh ⟨rfl,hUh⟩
     clear hGV
     have bgh:=bgg.ext hUh
     replace hRg1:=hRg1.ext hUh
     replace hRg2:=hRg2.ext hUh
     have hEh:=hEg.trans hUh
     clear bgg hEg hUh
     cases hmem:memB P Q G with
     | false=>
       have hr:newG P Q G sd ss=(1,0):=by
        unfold newG
        rw[if_neg HN4.out,if_neg (fun h=>h ⟨HpP.out,HpQ.out⟩),if_neg HNA.out,if_pos (by rw[hmem];decide)]
       have hEf:=IB.ext.trans hEh
       have Hr:=hide hr
       clear hr hmem
       go_wp2_with fail
       refine bodyPost_ret (v:=.tuple #[.pointer none,.int .i64 1]) ?_ rfl ?_
       · simp[results,Try.results8,go_sem]
       · rw[Hr.out];exact⟨hEf,fun _=>rfl,fun h=>by cases h⟩
     | true=>
       have hr:newG P Q G sd ss=hRes (hFrom P ((P - 1) / Q) sd 256 0):=by
        unfold newG
        rw[if_neg HN4.out,if_neg (fun h=>h ⟨HpP.out,HpQ.out⟩),if_neg HNA.out,if_neg (by rw[hmem];decide)]
       have Hr:=hide hr
       clear hr hmem
       go_wp2_with fail
       obtain⟨T,hT⟩:∃T,T=(P - 1) / Q:=⟨_,rfl⟩
       rw[←hT]at hV8 Hr
       have hFT:Fit k T:=by rw[hT];exact hFP.le (Nat.le_trans (Nat.div_le_self _ _) (by omega))
       clear hT
       go_loopw [123] (fun v wr=>∃(c:Nat) (Ah:Option Addr) (lh ch:Nat),c≤256∧v=.int .i64 (c:Int)∧Blk wr wb.heap.size 79 #[.pointer (some ⟨gp,0,none⟩),.pointer (some ⟨gq,0,none⟩),.slice Ag lg cg,.slice Ah lh ch,.int .i64 (sz:Int)]∧RingV wr gp P∧RingV wr gq Q∧Ext wb wr∧Hid (hFrom P T sd 256 0=hFrom P T sd (256 - c) c)) (fun v _=>256 - (intOf v).toNat)
       case atStart=>exact⟨0,none,0,0,by omega,rfl,bgh,hRg1,hRg2,hEh,hide rfl⟩
       case round=>
        clear bgh hRg1 hRg2 hEh
        obtain⟨c,Ah,lh,ch,hc,rfl,bg,hR1,hR2,hE,Hf⟩:=hrel
        by_cases hlt:c<256
        case neg=>
         obtain rfl:c=256:=by omega
         have hEf:=IB.ext.trans hE
         have hr:newG P Q G sd ss=(6,0):=by rw[Hr.out,Hf.out];rfl
         have Hr2:=hide hr
         clear hr hE bg hR1 hR2
         go_wp2_with fail
         refine bodyPost_ret (v:=.tuple #[.pointer none,.int .i64 6]) ?_ rfl ?_
         · simp[results,Try.results8,go_sem]
         · rw[Hr2.out];exact⟨hEf,fun _=>rfl,fun h=>by cases h⟩
        have hltI:(c:Int)<256:=by omega
        have hw8:IntKind.u8.wrap (c:Int)=(c:Int):=by simp[IntKind.wrap,IntKind.signed,IntKind.bits];omega
        obtain⟨s8,hs8,hs8n⟩:∃s8:Nat,(sz:Int)+8=(s8:Int)∧s8=sz+8:=⟨sz+8,by omega,rfl⟩
        have hs8b:s8≤136:=by omega
        have Hs8:=hide hs8n
        clear hs8n
        have q1:=fun y:Wd (Ext wr.drew)=>y.ok.cellv (show wr.drew.cell? ⟨w.heap.size,3,none⟩=some (.slice As ls cs) from(IB.pars.ext hE).at 3 rfl)
        have q2:=fun y:Wd (Ext wr.drew)=>y.ok.cellv (show wr.drew.cell? ⟨wb.heap.size,4,none⟩=some (.int .i64 (sz:Int)) from bg.at 4 rfl)
        obtain⟨bs,hbs⟩:∃bs,bs=Mac.expand (Mac.tag [] sd) [104,BitVec.ofNat 8 c] s8:=⟨_,rfl⟩
        have hbl8:bs.length=s8:=by rw[hbs];exact Mac.expand_length _ _ _
        have htry:hTry P T sd c=(ofB bs % P)^T % P:=by rw[hbs];unfold hTry;rw[←Hsz.out,←Hs8.out]
        have Htry:=hide htry
        have Hbl8:=hide hbl8
        have hinfo:Sl by8 (wr.drew.alloc (.cells #[.int .u8 104,.int .u8 (c:Int)] 5)) (some ⟨wr.heap.size,0,none⟩) [104,BitVec.ofNat 8 c]:=by
         have h:=Sl.new by8 wr.drew 5 [104,BitVec.ofNat 8 c]
         have e:by8 (BitVec.ofNat 8 c)=.int .u8 (c:Int):=by unfold by8 n8;rw[BitVec.toNat_ofNat,Nat.mod_eq_of_lt (by omega)]
         simp only[List.map_cons,List.map_nil,e]at h
         exact h
        have Hinfo:=hide hinfo
        clear hbl8 htry hinfo
        go_wp2_with fail
        refine wp_region_plan (Ext _) 15 [(false,0),(false,1),(false,2),(false,3),(false,5),(false,6),(false,7),(false,8),(false,9),(true,4),(true,10),(false,11),(false,12),(false,13),(false,14)] (by kernel_rfl) (by kernel_rfl) (Upd.refl _ _) (fun hne=>?_)
        repeat (refine head_q rfl (fun K hK=>?_);have hK2:=hide hK;clear hK;go_simp;refine hK2.out _ ?_;clear hK2 K)
        refine head_l rfl ?_
        go_wp2_with fail
        refine⟨Cls (Ext _),fun _ h=>h,⟨⟨_,((Upd.refl _ _).alloc _)⟩,rfl⟩,?_⟩
        repeat (refine head_q rfl (fun K hK=>?_);have hK2:=hide hK;clear hK;go_simp;refine hK2.out _ ?_;clear hK2 K)
        refine head_l rfl ?_
        go_wp2_with (go_at_call 33;go_must (refine(derive_any none 0 0 [] As ls cs sd (some ⟨wr.heap.size,0,none⟩) 2 2 [104,BitVec.ofNat 8 c] s8 _ Sl.nil rfl (Nat.le_refl _) (by decide) (by omega) (IB.seed.ext ((hE.drew).alloc _)) Hsl.out Hsc.out.1 Hsc.out.2 (by have:=HN4.out;have:=Hsl.out;omega) Hinfo.out rfl (Nat.le_refl _) (by decide) (by omega) (by omega)).mono ?_);rw[←hbs];rintro e wi ⟨Ai,ci,rfl,hOi,hUi⟩;replace hUi:Ext wr.drew wi:=Upd.trans (show Ext wr.drew _ from(Upd.refl _ _).alloc _) hUi)
        refine⟨Cls (Ext _),fun _ h=>h,⟨⟨_,hUi⟩,rfl⟩,?_⟩
        repeat (refine head_q rfl (fun K hK=>?_);have hK2:=hide hK;clear hK;go_simp;refine hK2.out _ ?_;clear hK2 K)
        have hEi:=Ext.undrew' hUi
        have bgi:=bg.ext hEi
        have hR1i:=hR1.ext hEi
        have hR2i:=hR2.ext hEi
        have hEi2:=hE.trans hEi
        have hSi:=hOi.sl
        clear q1 q2 bg hR1 hR2 hE hUi hEi hOi
        refine head_nil ?_
        try simp only[List.drop_succ_cons,List.drop_zero]
        go_wp2_with fail
        refine name_w (fun Wj hWj=>?_)
        have bn:Box Wj wi.heap.size 33 (.slice none 0 0):=by rw[hWj];exact Box.new _ _ _
        have hEj:Ext wi Wj:=by rw[hWj];exact(Upd.refl _ _).alloc _
        clear hWj
        go_loopw [146] (fun v wx=>∃(j:Nat) (An:Option Addr) (ln cn:Nat),j≤s8∧v=.int .i64 (j:Int)∧Box wx wi.heap.size 33 (.slice An ln cn)∧NatV wx (.agg #[.slice An ln cn]) (ofB (bs.take j) % P)∧Ext wi wx) (fun v _=>s8 - (intOf v).toNat)
        case atStart=>exact⟨0,none,0,0,Nat.zero_le _,rfl,bn,by rw[show ofB (bs.take 0) % P=0 by rw[List.take_zero];exact Nat.zero_mod _];exact NatV.nil _,hEj⟩
        case round=>
         clear bn hEj
         obtain⟨j,An,ln,cn,hj,rfl,bn,hVn,hE⟩:=hrel
         by_cases hjl:j<s8
         case pos=>
          have hjI:(j:Int)<(s8:Int):=by omega
          obtain⟨b0,o0,rfl, -,hcl⟩:=(hSi.ext hE).open_ (by rw[Hbl8.out];omega)
          have hcj:=hcl j (by rw[Hbl8.out];exact hjl)
          obtain⟨x,hx⟩:∃x,x=(gat bs j).toNat:=⟨_,rfl⟩
          have hx255:x<256:=by rw[hx];exact(gat bs j).isLt
          have hcx:wr.cell? ⟨b0,o0+j,none⟩=some (.int .u8 (x:Int)):=by rw[hcj,hx];rfl
          have hval:ofB (bs.take (j+1)) % P=(ofB (bs.take j) % P*256+x) % P:=by
           rw[ofB_take (by rw[Hbl8.out];exact hjl),←hx,Nat.add_mod,Nat.mul_mod,←Nat.mul_mod,←Nat.mod_mul_mod,←Nat.add_mod]
          obtain⟨V,hV0⟩:∃V,V=ofB (bs.take j) % P:=⟨_,rfl⟩
          rw[←hV0]at hVn hval
          have hFV:Fit k V:=by rw[hV0];exact hFP.le (Nat.le_of_lt (Nat.mod_lt _ (by omega)))
          have Hval:=hide hval
          have hF256:Fit k 256:=Fit.mono (by unfold Fit;decide) hk1
          have hFx:Fit (k+k) x:=Fit.mono (show Fit 1 x by unfold Fit;exact Nat.lt_trans hx255 (by decide)) (by omega)
          clear hcl hcj hx hV0 hval
          have q0:=fun y:Wd (Ext wr.drew)=>y.ok.cellv (show wr.drew.cell? ⟨wb.heap.size,0,none⟩=some (.pointer (some ⟨gp,0,none⟩)) from(bgi.ext hE).at 0 rfl)
          have q1:=fun y:Wd (Ext wr.drew)=>y.ok.cellv bn.drew.cell
          go_wp2_with fail
          refine wp_region_plan (Ext _) 12 [(false,0),(false,1),(false,2),(false,3),(false,4),(false,7),(false,8),(true,5),(true,6),(true,9),(true,10),(true,11)] (by kernel_rfl) (by kernel_rfl) (Upd.refl _ _) (fun hne=>?_)
          repeat (refine head_q rfl (fun K hK=>?_);have hK2:=hide hK;clear hK;go_simp;refine hK2.out _ ?_;clear hK2 K)
          refine head_l rfl ?_
          go_wp2_with (go_at_call 6;go_must (refine(new_any 256 _ (by decide)).mono ?_);rintro e x1 ⟨C1,m1,d1,rfl,hC1,hX1⟩)
          refine⟨Cls (Ext _),fun _ h=>h,⟨⟨_,hX1⟩,rfl⟩,?_⟩
          repeat (refine head_q rfl (fun K hK=>?_);have hK2:=hide hK;clear hK;go_simp;refine hK2.out _ ?_;clear hK2 K)
          refine head_l rfl ?_
          go_wp2_with (go_at_call 35;go_must (refine(mul_any _ _ V 256 k _ (hVn.ext ((Upd.refl _ _).drew.trans hX1)) hC1 hFV hF256 (by omega)).mono ?_);rintro e x2 ⟨C2,m2,d2,rfl,hC2,hX2⟩;replace hX2:=hX1.trans hX2)
          refine⟨Cls (Ext _),fun _ h=>h,⟨⟨_,hX2⟩,rfl⟩,?_⟩
          repeat (refine head_q rfl (fun K hK=>?_);have hK2:=hide hK;clear hK;go_simp;refine hK2.out _ ?_;clear hK2 K)
          refine head_l rfl ?_
          go_wp2_with (go_at_call 6;go_must (refine(new_any x _ (by omega)).mono ?_);rintro e x3 ⟨C3,m3,d3,rfl,hC3,hX3⟩;have hX3g:=hX2.trans hX3)
          refine⟨Cls (Ext _),fun _ h=>h,⟨⟨_,hX3g⟩,rfl⟩,?_⟩
          repeat (refine head_q rfl (fun K hK=>?_);have hK2:=hide hK;clear hK;go_simp;refine hK2.out _ ?_;clear hK2 K)
          refine head_l rfl ?_
          go_wp2_with (go_at_call 36;go_must (refine(add_any _ _ (V*256) x (k+k) _ (hC2.ext hX3) hC3 (Fit.mul hFV hF256) hFx (by omega)).mono ?_);rintro e x4 ⟨C4,m4,d4,rfl,hC4,hX4⟩;replace hX4:=hX3g.trans hX4)
          refine⟨Cls (Ext _),fun _ h=>h,⟨⟨_,hX4⟩,rfl⟩,?_⟩
          repeat (refine head_q rfl (fun K hK=>?_);have hK2:=hide hK;clear hK;go_simp;refine hK2.out _ ?_;clear hK2 K)
          refine head_l rfl ?_
          go_wp2_with (go_at_call 34;go_must (refine(mof_any _ gp (V*256+x) P (k+k+1) _ ((hR1i.ext hE).ext ((Upd.refl _ _).drew.trans hX4)) hC4 (Fit.add (Fit.mul hFV hF256) hFx) (hFP.mono (by omega)) (by omega)).mono ?_);rintro e x5 ⟨C5,m5,d5,rfl,hC5,hX5⟩;replace hX5:=hX4.trans hX5)
          refine⟨Cls (Ext _),fun _ h=>h,⟨⟨_,hX5⟩,rfl⟩,?_⟩
          repeat (refine head_q rfl (fun K hK=>?_);have hK2:=hide hK;clear hK;go_simp;refine hK2.out _ ?_;clear hK2 K)
          have hX:=Ext.undrew' hX5
          have bn2:=bn.ext hX
          have z2:=bn2.cell
          have z3:=bn2.frozen
          have bns:=bn2.set (.slice C5 m5 d5)
          have hVs:NatV (x5.setCell ⟨wi.heap.size,0,none⟩ (.slice C5 m5 d5)) (.agg #[.slice C5 m5 d5]) (ofB (bs.take (j+1)) % P):=by rw[Hval.out];exact hC5.far z2
          have hEs:Ext wi (x5.setCell ⟨wi.heap.size,0,none⟩ (.slice C5 m5 d5)):=(hE.trans hX).setCell (p:=⟨wi.heap.size,0,none⟩) (.inr (Nat.le_refl _)) _
          clear q0 q1 hX1 hX2 hX3 hX3g hX4 hX5 hC1 hC2 hC3 hC4 hC5 bn bn2 hX hE hVn hcx
          refine head_nil ?_
          try simp only[List.drop_succ_cons,List.drop_zero]
          go_wp2_with fail
          go_roundw
          case rel=>exact⟨j+1,C5,m5,d5,by omega,by go_num,bns,hVs,hEs⟩
          case measure=>simp[intOf]<;>omega
         case neg=>
          obtain rfl:s8=j:=by omega
          have hjI:¬((s8:Int)<(s8:Int)):=by omega
          rw[List.take_of_length_le (Nat.le_of_eq Hbl8.out)]at hVn
          obtain⟨V,hV0⟩:∃V,V=ofB bs % P:=⟨_,rfl⟩
          have htr2:hTry P T sd c=V^T % P:=by rw[Htry.out,←hV0]
          rw[←hV0]at hVn
          have hFV:Fit k V:=by rw[hV0];exact hFP.le (Nat.le_of_lt (Nat.mod_lt _ (by omega)))
          have Htr2:=hide htr2
          clear hV0 htr2
          have hEw:=hEi2.trans hE
          have bgj:=bgi.ext hE
          have hR1j:=hR1i.ext hE
          have hR2j:=hR2i.ext hE
          clear bgi hR1i hR2i hSi hEi2
          have q0:=fun y:Wd (Ext wr.drew)=>y.ok.cellv (show wr.drew.cell? ⟨wb.heap.size,0,none⟩=some (.pointer (some ⟨gp,0,none⟩)) from bgj.at 0 rfl)
          have q1:=fun y:Wd (Ext wr.drew)=>y.ok.cellv bn.drew.cell
          have q2:=fun y:Wd (Ext wr.drew)=>y.ok.cellv (b9.ext hEw).drew.cell
          go_wp2_with fail
          refine wp_region_plan (Ext _) 10 [(false,0),(false,1),(false,2),(false,3),(false,4),(false,5),(false,6),(true,7),(false,8),(false,9)] (by kernel_rfl) (by kernel_rfl) (Upd.refl _ _) (fun hne=>?_)
          repeat (refine head_q rfl (fun K hK=>?_);have hK2:=hide hK;clear hK;go_simp;refine hK2.out _ ?_;clear hK2 K)
          refine head_l rfl ?_
          go_wp2_with (go_at_call 37;go_must (refine(mexp_any _ _ gp V T P k k _ (hR1j.ext (Upd.refl _ _).drew) (hVn.ext (Upd.refl _ _).drew) (hV8.ext hEw.drew) hFV hFP hFT (by omega) (by omega)).mono ?_);rintro e y1 ⟨D1,m1,d1,rfl,hD1,hY1⟩)
          refine⟨Cls (Ext _),fun _ h=>h,⟨⟨_,hY1⟩,rfl⟩,?_⟩
          repeat (refine head_q rfl (fun K hK=>?_);have hK2:=hide hK;clear hK;go_simp;refine hK2.out _ ?_;clear hK2 K)
          have hY:=Ext.undrew' hY1
          have bgk:=bgj.ext hY
          have hR1k:=hR1j.ext hY
          have hR2k:=hR2j.ext hY
          have hEk:=hEw.trans hY
          have z0:=bgk.at 3 rfl
          have z1:=bgk.frozen 3
          clear q0 q1 q2 hY1 bgj hR1j hR2j hEw hY bn hVn hE
          have hl1:=hR1k
          have bgl:=bgk.set 3 (.slice D1 m1 d1)
          have hg1:gp≠wb.heap.size:=by omega
          have hg2:gq≠wb.heap.size:=by omega
          have hR1l:=hR1k.farV (v:=.slice D1 m1 d1) (p:=⟨wb.heap.size,3,none⟩) hg1 z0 (fun x e=>by cases e)
          have hR2l:=hR2k.farV (v:=.slice D1 m1 d1) (p:=⟨wb.heap.size,3,none⟩) hg2 z0 (fun x e=>by cases e)
          have hD2:=hD1.farV (v:=.slice D1 m1 d1) (p:=⟨wb.heap.size,3,none⟩) z0 (fun x e=>by cases e)
          have hEl:Ext wb (y1.setCell ⟨wb.heap.size,3,none⟩ (.slice D1 m1 d1)):=hEk.setCell (p:=⟨wb.heap.size,3,none⟩) (.inr (Nat.le_refl _)) _
          clear bgk hR1k hR2k hl1 hD1 hEk
          refine head_nil ?_
          try simp only[List.drop_succ_cons,List.drop_zero]
          go_wp2_with fail
          refine name_w (fun Wl hWl=>?_)
          rw[←hWl]at bgl hR1l hR2l hD2 hEl
          clear hWl z0 z1
          have q0:=fun y:Wd (Ext Wl.drew)=>y.ok.cellv (show Wl.drew.cell? ⟨wb.heap.size,3,none⟩=some (.slice D1 m1 d1) from bgl.at 3 rfl)
          have q1:=fun y:Wd (Ext Wl.drew)=>y.ok.cellv (IB.one.ext hEl).drew.cell
          have hFh:Fit k (V^T % P):=hFP.le (Nat.le_of_lt (Nat.mod_lt _ (by omega)))
          obtain⟨z,hz,hzd⟩:∃z,cmpI (V^T % P) 1=z∧decide (0<z)=decide (1<V^T % P):=⟨_,rfl,cmpI_gt0 _ 1⟩
          refine wp_region_plan (Ext _) 6 [(false,0),(false,1),(false,2),(false,3),(false,4),(true,5)] (by kernel_rfl) (by kernel_rfl) (Upd.refl _ _) (fun hne=>?_)
          repeat (refine head_q rfl (fun K hK=>?_);have hK2:=hide hK;clear hK;go_simp;refine hK2.out _ ?_;clear hK2 K)
          refine head_l rfl ?_
          go_wp2_with (go_at_call 20;go_must (refine(cmp_any _ _ (V^T % P) 1 k _ (hD2.ext (Upd.refl _ _).drew) (IB.v1.ext hEl.drew) hFh hF1 (by omega)).mono ?_);rintro e v1 ⟨rfl,hZ1⟩;rw[hz])
          refine⟨Cls (Ext _),fun _ h=>h,⟨⟨_,hZ1⟩,rfl⟩,?_⟩
          repeat (refine head_q rfl (fun K hK=>?_);have hK2:=hide hK;clear hK;go_simp;refine hK2.out _ ?_;clear hK2 K)
          have hZ:=Ext.undrew' hZ1
          have bgm:=bgl.ext hZ
          have hR1m:=hR1l.ext hZ
          have hR2m:=hR2l.ext hZ
          have hD3:=hD2.ext hZ
          have hEm:=hEl.trans hZ
          clear q0 q1 hZ1 bgl hR1l hR2l hD2 hEl hZ
          refine head_nil ?_
          try simp only[List.drop_succ_cons,List.drop_zero]
          have hstep:hFrom P T sd (256 - c) c=if 1<V^T % P then some (V^T % P) else hFrom P T sd (256 - (c+1)) (c+1):=by
            rw[show 256 - c=(256 - (c+1))+1 by omega,←Htr2.out]
            rfl
          by_cases h1:1<V^T % P
          · rw[decide_eq_true h1]at hzd
            have hr:newG P Q G sd ss=(0,V^T % P):=by rw[Hr.out,Hf.out,hstep,if_pos h1];rfl
            have Hr2:=hide hr
            have hEf:=IB.ext.trans hEm
            have hGV:GrpV v1 wb.heap.size P Q G (V^T % P):=⟨gp,gq,Ag,lg,cg,D1,m1,d1,by rw[←Hsz.out];exact bgm,hR1m,hR2m,IB.vG.ext hEm,hD3⟩
            have HGV:=hide hGV
            clear hr hGV bgm hR1m hR2m hD3 hEm hstep
            go_wp2_with fail
            refine bodyPost_ret (v:=.tuple #[.pointer (some ⟨wb.heap.size,0,none⟩),.int .i64 0]) ?_ rfl ?_
            · simp[results,Try.results8,go_sem]
            · rw[Hr2.out];exact⟨hEf,fun h=>absurd rfl h,fun _=>⟨_,rfl,HGV.out⟩⟩
          · rw[decide_eq_false h1]at hzd
            have hf2:Hid (hFrom P T sd 256 0=hFrom P T sd (256 - (c+1)) (c+1)):=hide (by rw[Hf.out,hstep,if_neg h1])
            clear hstep
            go_wp2_with fail
            go_roundw
            case rel=>exact⟨c+1,D1,m1,d1,by omega,by go_num,bgm,hR1m,hR2m,hEm,hf2⟩
            case measure=>simp[intOf]<;>omega
end Go.Proofs.Ytbhhjfhepkbfgaa
