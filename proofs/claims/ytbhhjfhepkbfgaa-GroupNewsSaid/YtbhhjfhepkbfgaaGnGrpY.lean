/- The document's group, walked: New. -/
import Derived.Test.YtbhhjfhepkbfgaaGnGrpX
namespace Go.Proofs.Ytbhhjfhepkbfgaa
set_option linter.unusedSimpArgs false
set_option linter.unusedVariables false
open Go.RowKit
open Nt Sha Pk
attribute [local go_sem] steady steadyUpon Cls same_cell
attribute [local irreducible] wpHead wpTree Sha.sum
def rnewG (P Q G:Nat) (sd:List (BitVec 8)) (ss:List St):Int × Nat:=
 if ¬(rprimeB P ss=true∧rprimeB Q ss=true) then (8,0)
 else if (P - 1) % Q≠0∨Q≤64∨G≤1∨P≤G then (1,0)
 else if ¬memB P Q G=true then (1,0)
 else hRes (hFrom P ((P - 1) / Q) sd 256 0)
def RetRGNew (w:World) (P Q G:Nat) (r:Int × Nat) (e:Ending) (w':World):Prop:=
 Ext w w'∧∃A1 l1 c1 A2 l2 c2 A3 l3 c3 A4 l4 c4,e=.returned (.tuple #[.agg #[.slice A1 l1 c1,.slice A2 l2 c2,.slice A3 l3 c3,.slice A4 l4 c4],.int .i64 r.1])∧(r.1=0→RGrpV w' (.agg #[.slice A1 l1 c1,.slice A2 l2 c2,.slice A3 l3 c3,.slice A4 l4 c4]) P Q G r.2)
set_option maxRecDepth 100000 in
set_option maxHeartbeats 8000000 in
theorem rgNew_any (vp vq vg:Value) (P Q G:Nat) (As:Option Addr) (ls cs:Nat) (sd:List (BitVec 8)) (AS:Option Addr) (n c:Nat) (ss:List St) (w:World)
 (hP:RefV w vp P) (hQ:RefV w vq Q) (hG:RefV w vg G) (hS:Sl by8 w As sd) (hsl:sd.length=ls) (hsc:ls≤cs) (hsm:cs≤maxLen) (hls:ls≤128) (hL:RStepL w AS ss) (hn:ss.length=n) (hn2:n≤1000)
 (hFP:Fit 2 P) (hFQ:Fit 2 Q) (hFG:Fit 2 G) (hFs:∀i,i<ss.length→FitS 2 (gat ss i)) (hpr:∀x,rprimeB x ss=true→2≤x):
 Calls Try.prog 9 #[vp,vq,vg,.slice As ls cs,.slice AS n c] w (RetRGNew w P Q G (rnewG P Q G sd ss)):=by
 obtain⟨Ap,lp,cp,xp,rfl, -⟩:=hP.open_
 obtain⟨Aq,lq,cq,xq,rfl, -⟩:=hQ.open_
 obtain⟨Ag,lg,cg,xg,rfl, -⟩:=hG.open_
 have Hsl:=hide hsl
 have Hsc:=hide (And.intro hsc hsm)
 have Hn:=hide hn
 have HFs:=hide hFs
 have Hpr:=hide hpr
 have hbP:blen P≤64:=hFP.blen
 have hbQ:blen Q≤64:=hFQ.blen
 have hbG:blen G≤64:=hFG.blen
 have hls9:ls≤9223372036854775807:=by omega
 clear hsl hsc hsm hn hFs hpr
 go_enter Try.func9,Try.ntmps9
 go_wp2_with fail
 refine name_c (fun X hX=>?_)
 have b10:Blk X w.heap.size 51 #[.slice none 0 0,.slice none 0 0,.slice none 0 0,.slice none 0 0]:=by rw[hX];exact Blk.new _ _ _
 have hE:Ext w X:=by rw[hX];exact(Upd.refl _ _).alloc _
 clear hX
 refine(rsmall_any 1 _ (by decide)).mono ?_
 rintro e w1 ⟨A1,l1,c1,rfl,hV1,hU⟩
 replace b10:=b10.ext hU
 replace hE:=hE.trans hU
 clear hU
 go_wp2_with fail
 refine(rgprime_any _ P 2 AS n c ss _ (hP.ext hE) hFP (hL.ext hE) Hn.out hn2 HFs.out (by omega) (by omega)).mono ?_
 rintro e w2 ⟨rfl,hU⟩
 replace b10:=b10.ext hU
 replace hE:=hE.trans hU
 replace hV1:=hV1.ext hU
 clear hU
 cases hpP:rprimeB P ss with
 | false=>
   have hr:rnewG P Q G sd ss=(8,0):=by unfold rnewG;rw[if_pos (fun h=>by rw[hpP]at h;cases h.1)]
   have Hr:=hide hr
   have o0:=(b10).at 0 rfl
   have o1:=(b10).at 1 rfl
   have o2:=(b10).at 2 rfl
   have o3:=(b10).at 3 rfl
   have f0:=(b10).frozen 0
   have f1:=(b10).frozen 1
   have f2:=(b10).frozen 2
   have f3:=(b10).frozen 3
   clear hr
   go_wp2_with fail
   have hBF:=blk4 b10 (.slice none 0 0) (.slice none 0 0) (.slice none 0 0) (.slice none 0 0)
   have hEF:=ext4 hE (Nat.le_refl _) (.slice none 0 0) (.slice none 0 0) (.slice none 0 0) (.slice none 0 0)
   have q0:=hBF.at 0 rfl
   have q1:=hBF.at 1 rfl
   have q2:=hBF.at 2 rfl
   have q3:=hBF.at 3 rfl
   refine bodyPost_ret (v:=.tuple #[.agg #[.slice none 0 0,.slice none 0 0,.slice none 0 0,.slice none 0 0],.int .i64 8]) ?_ rfl ?_
   · simp[results,Try.results9,go_sem,q0,q1,q2,q3]
   · rw[Hr.out];exact⟨hEF,none,0,0,none,0,0,none,0,0,none,0,0,rfl,fun h=>by cases h⟩
 | true=>
   go_wp2_with fail
   refine(rgprime_any _ Q 2 AS n c ss _ (hQ.ext hE) hFQ (hL.ext hE) Hn.out hn2 HFs.out (by omega) (by omega)).mono ?_
   rintro e w3 ⟨rfl,hU⟩
   replace b10:=b10.ext hU
   replace hE:=hE.trans hU
   replace hV1:=hV1.ext hU
   clear hU
   cases hpQ:rprimeB Q ss with
   | false=>
     have hr:rnewG P Q G sd ss=(8,0):=by unfold rnewG;rw[if_pos (fun h=>by rw[hpQ]at h;cases h.2)]
     have Hr:=hide hr
     have o0:=(b10).at 0 rfl
     have o1:=(b10).at 1 rfl
     have o2:=(b10).at 2 rfl
     have o3:=(b10).at 3 rfl
     have f0:=(b10).frozen 0
     have f1:=(b10).frozen 1
     have f2:=(b10).frozen 2
     have f3:=(b10).frozen 3
     clear hr
     go_wp2_with fail
     have hBF:=blk4 b10 (.slice none 0 0) (.slice none 0 0) (.slice none 0 0) (.slice none 0 0)
     have hEF:=ext4 hE (Nat.le_refl _) (.slice none 0 0) (.slice none 0 0) (.slice none 0 0) (.slice none 0 0)
     have q0:=hBF.at 0 rfl
     have q1:=hBF.at 1 rfl
     have q2:=hBF.at 2 rfl
     have q3:=hBF.at 3 rfl
     refine bodyPost_ret (v:=.tuple #[.agg #[.slice none 0 0,.slice none 0 0,.slice none 0 0,.slice none 0 0],.int .i64 8]) ?_ rfl ?_
     · simp[results,Try.results9,go_sem,q0,q1,q2,q3]
     · rw[Hr.out];exact⟨hEF,none,0,0,none,0,0,none,0,0,none,0,0,rfl,fun h=>by cases h⟩
   | true=>
     have hP2:2≤P:=Hpr.out P hpP
     have hQ2:2≤Q:=Hpr.out Q hpQ
     have hpn:¬¬(rprimeB P ss=true∧rprimeB Q ss=true):=fun h=>h ⟨hpP,hpQ⟩
     have HpN:=hide hpn
     clear hpP hpQ hpn
     go_wp2_with fail
     refine(rsub_any _ _ P 1 64 _ (hP.ext hE) hV1 hbP (by omega) (by omega)).mono ?_
     rintro e w4 ⟨A4,l4,c4,rfl,hV4,hU⟩
     replace b10:=b10.ext hU
     replace hE:=hE.trans hU
     replace hV1:=hV1.ext hU
     clear hU
     go_wp2_with fail
     refine(rdiv_any _ _ (P - 1) Q 64 _ hV4 (hQ.ext hE) (Nat.le_trans (blen_mono (Nat.sub_le _ _)) hbP) hbQ (by omega) (by omega)).mono ?_
     rintro e w5 ⟨A5,l5,c5,A6,l6,c6,rfl,hV5,hV6,hU⟩
     replace b10:=b10.ext hU
     replace hE:=hE.trans hU
     replace hV1:=hV1.ext hU
     have hl6:l6=blen ((P - 1) % Q):=hV6.len
     have hm6:l6≤64:=by rw[hl6];exact Nat.le_trans (blen_mono (Nat.le_trans (Nat.mod_le _ _) (Nat.sub_le _ _))) hbP
     clear hU hV4 hV6
     obtain⟨T,hT⟩:∃T,T=(P - 1) / Q:=⟨_,rfl⟩
     rw[←hT]at hV5
     have hbT:blen T≤64:=by rw[hT];exact Nat.le_trans (blen_mono (Nat.le_trans (Nat.div_le_self _ _) (Nat.sub_le _ _))) hbP
     have HT:=hide hT
     clear hT
     by_cases hr0:(P - 1) % Q=0
     case neg=>
      have hlI:(0:Int)<(l6:Int):=by
       have:¬l6=0:=fun h=>hr0 (blen_eq_zero.1 (hl6.symm.trans h))
       omega
      have HR0:=hide hr0
      clear hl6 hr0
      have hr:rnewG P Q G sd ss=(1,0):=by unfold rnewG;rw[if_neg HpN.out,if_pos (.inl HR0.out)]
      have Hr:=hide hr
      have o0:=(b10).at 0 rfl
      have o1:=(b10).at 1 rfl
      have o2:=(b10).at 2 rfl
      have o3:=(b10).at 3 rfl
      have f0:=(b10).frozen 0
      have f1:=(b10).frozen 1
      have f2:=(b10).frozen 2
      have f3:=(b10).frozen 3
      clear hr
      go_wp2_with fail
      have hBF:=blk4 b10 (.slice none 0 0) (.slice none 0 0) (.slice none 0 0) (.slice none 0 0)
      have hEF:=ext4 hE (Nat.le_refl _) (.slice none 0 0) (.slice none 0 0) (.slice none 0 0) (.slice none 0 0)
      have q0:=hBF.at 0 rfl
      have q1:=hBF.at 1 rfl
      have q2:=hBF.at 2 rfl
      have q3:=hBF.at 3 rfl
      refine bodyPost_ret (v:=.tuple #[.agg #[.slice none 0 0,.slice none 0 0,.slice none 0 0,.slice none 0 0],.int .i64 1]) ?_ rfl ?_
      · simp[results,Try.results9,go_sem,q0,q1,q2,q3]
      · rw[Hr.out];exact⟨hEF,none,0,0,none,0,0,none,0,0,none,0,0,rfl,fun h=>by cases h⟩
     have hlI:¬(0:Int)<(l6:Int):=by
      have:l6=0:=by rw[hl6,hr0];rfl
      omega
     have HR0:=hide hr0
     obtain⟨zq,hzq,hzqd⟩:∃z,cmpI Q 64=z∧decide (z≤0)=decide (Q≤64):=⟨_,rfl,cmpI_le0 Q 64⟩
     obtain⟨zg,hzg,hzgd⟩:∃z,cmpI G 1=z∧decide (z≤0)=decide (G≤1):=⟨_,rfl,cmpI_le0 G 1⟩
     obtain⟨zp,hzp,hzpd⟩:∃z,cmpI G P=z∧decide (0≤z)=decide (P≤G):=⟨_,rfl,cmpI_ge0 G P⟩
     have Hzg:=hide hzg
     have Hzp:=hide hzp
     clear hl6 hr0 hzg hzp
     go_wp2_with fail
     refine(rsmall_any 64 _ (by decide)).mono ?_
     rintro e w6 ⟨A7,l7,c7,rfl,hV64,hU⟩
     replace b10:=b10.ext hU
     replace hE:=hE.trans hU
     replace hV1:=hV1.ext hU
     replace hV5:=hV5.ext hU
     clear hU
     go_wp2_with fail
     refine(rcmp_any _ _ Q 64 64 _ (hQ.ext hE) hV64 hbQ (by decide) (by omega)).mono ?_
     rw[hzq]
     rintro e w7 ⟨rfl,hU⟩
     replace b10:=b10.ext hU
     replace hE:=hE.trans hU
     replace hV1:=hV1.ext hU
     replace hV5:=hV5.ext hU
     clear hU hV64 hzq
     by_cases hq64:Q≤64
     case pos=>
      rw[decide_eq_true hq64]at hzqd
      have hr:rnewG P Q G sd ss=(1,0):=by unfold rnewG;rw[if_neg HpN.out,if_pos (.inr (.inl hq64))]
      have Hr:=hide hr
      have o0:=(b10).at 0 rfl
      have o1:=(b10).at 1 rfl
      have o2:=(b10).at 2 rfl
      have o3:=(b10).at 3 rfl
      have f0:=(b10).frozen 0
      have f1:=(b10).frozen 1
      have f2:=(b10).frozen 2
      have f3:=(b10).frozen 3
      clear hr
      go_wp2_with fail
      have hBF:=blk4 b10 (.slice none 0 0) (.slice none 0 0) (.slice none 0 0) (.slice none 0 0)
      have hEF:=ext4 hE (Nat.le_refl _) (.slice none 0 0) (.slice none 0 0) (.slice none 0 0) (.slice none 0 0)
      have q0:=hBF.at 0 rfl
      have q1:=hBF.at 1 rfl
      have q2:=hBF.at 2 rfl
      have q3:=hBF.at 3 rfl
      refine bodyPost_ret (v:=.tuple #[.agg #[.slice none 0 0,.slice none 0 0,.slice none 0 0,.slice none 0 0],.int .i64 1]) ?_ rfl ?_
      · simp[results,Try.results9,go_sem,q0,q1,q2,q3]
      · rw[Hr.out];exact⟨hEF,none,0,0,none,0,0,none,0,0,none,0,0,rfl,fun h=>by cases h⟩
     rw[decide_eq_false hq64]at hzqd
     go_wp2_with fail
     refine(rcmp_any _ _ G 1 64 _ (hG.ext hE) hV1 hbG (by decide) (by omega)).mono ?_
     rw[Hzg.out]
     rintro e w8 ⟨rfl,hU⟩
     replace b10:=b10.ext hU
     replace hE:=hE.trans hU
     replace hV1:=hV1.ext hU
     replace hV5:=hV5.ext hU
     clear hU
     by_cases hg1:G≤1
     case pos=>
      rw[decide_eq_true hg1]at hzgd
      have hr:rnewG P Q G sd ss=(1,0):=by unfold rnewG;rw[if_neg HpN.out,if_pos (.inr (.inr (.inl hg1)))]
      have Hr:=hide hr
      have o0:=(b10).at 0 rfl
      have o1:=(b10).at 1 rfl
      have o2:=(b10).at 2 rfl
      have o3:=(b10).at 3 rfl
      have f0:=(b10).frozen 0
      have f1:=(b10).frozen 1
      have f2:=(b10).frozen 2
      have f3:=(b10).frozen 3
      clear hr
      go_wp2_with fail
      have hBF:=blk4 b10 (.slice none 0 0) (.slice none 0 0) (.slice none 0 0) (.slice none 0 0)
      have hEF:=ext4 hE (Nat.le_refl _) (.slice none 0 0) (.slice none 0 0) (.slice none 0 0) (.slice none 0 0)
      have q0:=hBF.at 0 rfl
      have q1:=hBF.at 1 rfl
      have q2:=hBF.at 2 rfl
      have q3:=hBF.at 3 rfl
      refine bodyPost_ret (v:=.tuple #[.agg #[.slice none 0 0,.slice none 0 0,.slice none 0 0,.slice none 0 0],.int .i64 1]) ?_ rfl ?_
      · simp[results,Try.results9,go_sem,q0,q1,q2,q3]
      · rw[Hr.out];exact⟨hEF,none,0,0,none,0,0,none,0,0,none,0,0,rfl,fun h=>by cases h⟩
     rw[decide_eq_false hg1]at hzgd
     go_wp2_with fail
     refine(rcmp_any _ _ G P 64 _ (hG.ext hE) (hP.ext hE) hbG hbP (by omega)).mono ?_
     rw[Hzp.out]
     rintro e w9 ⟨rfl,hU⟩
     replace b10:=b10.ext hU
     replace hE:=hE.trans hU
     replace hV1:=hV1.ext hU
     replace hV5:=hV5.ext hU
     clear hU
     by_cases hgp:P≤G
     case pos=>
      rw[decide_eq_true hgp]at hzpd
      have hr:rnewG P Q G sd ss=(1,0):=by unfold rnewG;rw[if_neg HpN.out,if_pos (.inr (.inr (.inr hgp)))]
      have Hr:=hide hr
      have o0:=(b10).at 0 rfl
      have o1:=(b10).at 1 rfl
      have o2:=(b10).at 2 rfl
      have o3:=(b10).at 3 rfl
      have f0:=(b10).frozen 0
      have f1:=(b10).frozen 1
      have f2:=(b10).frozen 2
      have f3:=(b10).frozen 3
      clear hr
      go_wp2_with fail
      have hBF:=blk4 b10 (.slice none 0 0) (.slice none 0 0) (.slice none 0 0) (.slice none 0 0)
      have hEF:=ext4 hE (Nat.le_refl _) (.slice none 0 0) (.slice none 0 0) (.slice none 0 0) (.slice none 0 0)
      have q0:=hBF.at 0 rfl
      have q1:=hBF.at 1 rfl
      have q2:=hBF.at 2 rfl
      have q3:=hBF.at 3 rfl
      refine bodyPost_ret (v:=.tuple #[.agg #[.slice none 0 0,.slice none 0 0,.slice none 0 0,.slice none 0 0],.int .i64 1]) ?_ rfl ?_
      · simp[results,Try.results9,go_sem,q0,q1,q2,q3]
      · rw[Hr.out];exact⟨hEF,none,0,0,none,0,0,none,0,0,none,0,0,rfl,fun h=>by cases h⟩
     rw[decide_eq_false hgp]at hzpd
     have hNA:¬((P - 1) % Q≠0∨Q≤64∨G≤1∨P≤G):=by have:=HR0.out;omega
     have HNA:=hide hNA
     clear hNA
     go_wp2_with fail
     clear hzqd hzgd hzpd hlI
     refine name_c (fun X hX=>?_)
     have b15:Blk X w9.heap.size 51 #[.slice Ap lp cp,.slice Aq lq cq,.slice Ag lg cg,.slice none 0 0]:=by rw[hX];exact Blk.new _ _ _
     have hEX:Ext w9 X:=by rw[hX];exact(Upd.refl _ _).alloc _
     clear hX
     have hg15:w.heap.size<w9.heap.size:=b10.lt
     replace b10:=b10.ext hEX
     replace hE:=hE.trans hEX
     replace hV1:=hV1.ext hEX
     replace hV5:=hV5.ext hEX
     clear hEX
     refine(rmember_any _ _ P Q G 0 _ G ⟨Ap,lp,cp,Aq,lq,cq,Ag,lg,cg,none,0,0,rfl,hP.ext hE,hQ.ext hE,hG.ext hE,NumS.nil _ _ _ _⟩ (hG.ext hE) (by omega) (by omega) (by omega) (by omega)).mono ?_
     rintro e wa ⟨rfl,hU⟩
     replace b10:=b10.ext hU
     replace hE:=hE.trans hU
     replace b15:=b15.ext hU
     replace hV1:=hV1.ext hU
     replace hV5:=hV5.ext hU
     clear hU
     cases hmem:memB P Q G with
     | false=>
       have hr:rnewG P Q G sd ss=(1,0):=by unfold rnewG;rw[if_neg HpN.out,if_neg HNA.out,if_pos (by rw[hmem];decide)]
       have Hr:=hide hr
       have o0:=(b10).at 0 rfl
       have o1:=(b10).at 1 rfl
       have o2:=(b10).at 2 rfl
       have o3:=(b10).at 3 rfl
       have f0:=(b10).frozen 0
       have f1:=(b10).frozen 1
       have f2:=(b10).frozen 2
       have f3:=(b10).frozen 3
       clear hr
       go_wp2_with fail
       have hBF:=blk4 b10 (.slice none 0 0) (.slice none 0 0) (.slice none 0 0) (.slice none 0 0)
       have hEF:=ext4 hE (Nat.le_refl _) (.slice none 0 0) (.slice none 0 0) (.slice none 0 0) (.slice none 0 0)
       have q0:=hBF.at 0 rfl
       have q1:=hBF.at 1 rfl
       have q2:=hBF.at 2 rfl
       have q3:=hBF.at 3 rfl
       refine bodyPost_ret (v:=.tuple #[.agg #[.slice none 0 0,.slice none 0 0,.slice none 0 0,.slice none 0 0],.int .i64 1]) ?_ rfl ?_
       · simp[results,Try.results9,go_sem,q0,q1,q2,q3]
       · rw[Hr.out];exact⟨hEF,none,0,0,none,0,0,none,0,0,none,0,0,rfl,fun h=>by cases h⟩
     | true=>
       have hr:rnewG P Q G sd ss=hRes (hFrom P T sd 256 0):=by
        unfold rnewG
        rw[if_neg HpN.out,if_neg HNA.out,if_neg (by rw[hmem];decide),HT.out]
       have Hr0:=hide hr
       clear hr hmem
       obtain⟨g15,hg15e⟩:∃g,g=w9.heap.size:=⟨_,rfl⟩
       rw[←hg15e]at b15 hg15
       go_wp2_with fail
       rw[←hg15e]
       clear hg15e
       go_loopw [16] (fun v wr=>∃(c:Nat),c≤256∧v=.int .i64 (c:Int)∧Ext wa wr∧Hid (hFrom P T sd 256 0=hFrom P T sd (256 - c) c)) (fun v _=>256 - (intOf v).toNat)
       case atStart=>exact⟨0,by omega,rfl,Upd.refl _ _,hide rfl⟩
       case round=>
        obtain⟨c,hc,rfl,hEr,Hf⟩:=hrel
        have b10r:=b10.ext hEr
        have b15r:=b15.ext hEr
        have hEw:=hE.trans hEr
        by_cases hlt:c<256
        case neg=>
         obtain rfl:c=256:=by omega
         have hr:rnewG P Q G sd ss=(6,0):=by rw[Hr0.out,Hf.out];rfl
         have Hr:=hide hr
         have o0:=(b10r).at 0 rfl
         have o1:=(b10r).at 1 rfl
         have o2:=(b10r).at 2 rfl
         have o3:=(b10r).at 3 rfl
         have f0:=(b10r).frozen 0
         have f1:=(b10r).frozen 1
         have f2:=(b10r).frozen 2
         have f3:=(b10r).frozen 3
         clear hr
         go_wp2_with fail
         have hBF:=blk4 b10r (.slice none 0 0) (.slice none 0 0) (.slice none 0 0) (.slice none 0 0)
         have hEF:=ext4 hEw (Nat.le_refl _) (.slice none 0 0) (.slice none 0 0) (.slice none 0 0) (.slice none 0 0)
         have q0:=hBF.at 0 rfl
         have q1:=hBF.at 1 rfl
         have q2:=hBF.at 2 rfl
         have q3:=hBF.at 3 rfl
         refine bodyPost_ret (v:=.tuple #[.agg #[.slice none 0 0,.slice none 0 0,.slice none 0 0,.slice none 0 0],.int .i64 6]) ?_ rfl ?_
         · simp[results,Try.results9,go_sem,q0,q1,q2,q3]
         · rw[Hr.out];exact⟨hEF,none,0,0,none,0,0,none,0,0,none,0,0,rfl,fun h=>by cases h⟩
        have hltI:(c:Int)<256:=by omega
        have hw8:IntKind.u8.wrap (c:Int)=(c:Int):=by simp[IntKind.wrap,IntKind.signed,IntKind.bits];omega
        obtain⟨sz,hsz⟩:∃sz,sz=byteSz P:=⟨_,rfl⟩
        have hsz4:sz≤8:=by rw[hsz];unfold byteSz;omega
        obtain⟨s8,hs8,hs8n⟩:∃s8:Nat,(sz:Int)+8=(s8:Int)∧s8=sz+8:=⟨sz+8,by omega,rfl⟩
        have hs8b:s8≤16:=by omega
        obtain⟨bs,hbs⟩:∃bs,bs=Mac.expand (Mac.tag [] sd) [104,BitVec.ofNat 8 c] s8:=⟨_,rfl⟩
        have hbl8:bs.length=s8:=by rw[hbs];exact Mac.expand_length _ _ _
        obtain⟨V,hV⟩:∃V,V=ofB bs^T % P:=⟨_,rfl⟩
        have htry:hTry P T sd c=V:=by rw[hV,hbs];unfold hTry;rw[hs8n,hsz,←Nat.pow_mod]
        have hbb:blen (ofB bs)≤128:=blen_le_iff.2 (Nat.lt_of_lt_of_le (ofB_lt bs) (by rw[hbl8,show(2:Nat)^128=256^16 by decide];exact Nat.pow_le_pow_right (by decide) hs8b))
        have hbV:blen V≤64:=by rw[hV];exact Nat.le_trans (blen_mono (Nat.le_of_lt (Nat.mod_lt _ (by omega)))) hbP
        have Hsz:=hide hsz
        have Hbs:=hide hbs
        have HV:=hide hV
        have Htry:=hide htry
        have Hbl8:=hide hbl8
        have hinfo:Sl by8 (wr.alloc (.cells #[.int .u8 104,.int .u8 (c:Int)] 5)) (some ⟨wr.heap.size,0,none⟩) [104,BitVec.ofNat 8 c]:=by
         have h:=Sl.new by8 wr 5 [104,BitVec.ofNat 8 c]
         have e:by8 (BitVec.ofNat 8 c)=.int .u8 (c:Int):=by unfold by8 n8;rw[BitVec.toNat_ofNat,Nat.mod_eq_of_lt (by omega)]
         simp only[List.map_cons,List.map_nil,e]at h
         exact h
        have hEal:Ext wr (wr.alloc (.cells #[.int .u8 104,.int .u8 (c:Int)] 5)):=(Upd.refl _ _).alloc _
        have k0:=(b15r.ext hEal).at 0 rfl
        have k1:=(b15r.ext hEal).at 1 rfl
        have k2:=(b15r.ext hEal).at 2 rfl
        have k3:=(b15r.ext hEal).at 3 rfl
        have Hinfo:=hide hinfo
        have Hs8n:=hide hs8n
        clear hsz hbs hV htry hbl8 hinfo hs8n
        go_wp2_with fail
        clear k0 k1 k2 k3
        have hinfo:=Hinfo.out
        obtain⟨W1,hW1⟩:∃W1,W1=wr.alloc (.cells #[.int .u8 104,.int .u8 (c:Int)] 5):=⟨_,rfl⟩
        rw[←hW1]at hinfo hEal ⊢
        clear hW1 Hinfo
        have hE1:=hEw.trans hEal
        refine(rsize_any _ _ P Q G 0 ⟨Ap,lp,cp,Aq,lq,cq,Ag,lg,cg,none,0,0,rfl,hP.ext hE1,hQ.ext hE1,hG.ext hE1,NumS.nil _ _ _ _⟩ (by omega)).mono ?_
        rw[←Hsz.out]
        rintro e w11 ⟨rfl,hU11⟩
        have hE2:=hE1.trans hU11
        have hinfo2:=hinfo.ext hU11
        clear hinfo
        go_wp2_with fail
        refine(rderive_any none 0 0 [] As ls cs sd (some ⟨wr.heap.size,0,none⟩) 2 2 [104,BitVec.ofNat 8 c] s8 _ Sl.nil rfl (Nat.le_refl _) (Nat.zero_le _) (by omega) (hS.ext hE2) Hsl.out Hsc.out.1 Hsc.out.2 (by omega) hinfo2 rfl (Nat.le_refl _) (by decide) (by omega) (by omega)).mono ?_
        rw[←Hbs.out]
        rintro e w12 ⟨A12,c12,rfl,hO12,hU12⟩
        have hE3:=hE2.trans hU12
        have hEr3:=((hEr.trans hEal).trans hU11).trans hU12
        have hS12:=hO12.sl
        clear hinfo2 hO12 hE1 hE2 hU11 hU12 hEal
        go_wp2_with fail
        refine(rof_any A12 s8 c12 bs _ Hbl8.out (by omega) hS12).mono ?_
        rintro e w13 ⟨A13,l13,c13,rfl,hV13,hU13⟩
        go_wp2_with fail
        refine(rexp_any _ _ _ (ofB bs) T P 128 _ hV13 (hV5.ext (hEr3.trans hU13)) (hP.ext (hE3.trans hU13)) hbb (by omega) (by omega) (by omega) (by omega)).mono ?_
        rw[←HV.out]
        rintro e w14 ⟨A14,l14,c14,rfl,hV14,hU14⟩
        have hEr4:=(hEr3.trans hU13).trans hU14
        clear hV13 hS12 hU13 hU14 hEr3 hE3
        obtain⟨z,hz,hzd⟩:∃z,cmpI V 1=z∧decide (0<z)=decide (1<V):=⟨_,rfl,cmpI_gt0 _ 1⟩
        go_wp2_with fail
        refine(rcmp_any _ _ V 1 64 _ hV14 (hV1.ext hEr4) hbV (by decide) (by omega)).mono ?_
        rw[hz]
        rintro e w15 ⟨rfl,hU15⟩
        have hEr5:=hEr4.trans hU15
        replace hV14:=hV14.ext hU15
        clear hU15 hEr4 hz
        have hstep:hFrom P T sd (256 - c) c=if 1<V then some V else hFrom P T sd (256 - (c+1)) (c+1):=by
          rw[show 256 - c=(256 - (c+1))+1 by omega,←Htry.out]
          rfl
        by_cases h1:1<V
        · rw[decide_eq_true h1]at hzd
          have hr:rnewG P Q G sd ss=(0,V):=by rw[Hr0.out,Hf.out,hstep,if_pos h1];rfl
          have Hr:=hide hr
          have hE5:=hE.trans hEr5
          have c15:=b15.ext hEr5
          have c10:=b10.ext hEr5
          have z0:=c15.at 3 rfl
          have z1:=c15.frozen 3
          clear hr hstep
          go_upto_region 17 with fail
          clear z0 z1
          have s15:=c15.set 3 (.slice A14 l14 c14)
          have hne:w.heap.size≠g15:=by omega
          have s10:Blk (w15.setCell ⟨g15,3,none⟩ (.slice A14 l14 c14)) w.heap.size 51 #[.slice none 0 0,.slice none 0 0,.slice none 0 0,.slice none 0 0]:=c10.upd ((Upd.refl (only g15) _).setCell (T:=only g15) (p:=⟨g15,3,none⟩) (.inl rfl) _) (fun e=>hne e)
          have hRP:=(hP.ext hE5).far (v:=.slice A14 l14 c14) (c15.at 3 rfl)
          have hRQ:=(hQ.ext hE5).far (v:=.slice A14 l14 c14) (c15.at 3 rfl)
          have hRG:=(hG.ext hE5).far (v:=.slice A14 l14 c14) (c15.at 3 rfl)
          have hRV:=hV14.far (v:=.slice A14 l14 c14) (c15.at 3 rfl)
          have hE6:Ext w (w15.setCell ⟨g15,3,none⟩ (.slice A14 l14 c14)):=hE5.setCell (p:=⟨g15,3,none⟩) (.inr (Nat.le_of_lt hg15)) _
          refine name_w (fun Y hY=>?_)
          rw[←hY]at s15 s10 hRP hRQ hRG hRV hE6
          clear hY c15 c10 hE5 hV14
          have k0:=s15.at 0 rfl
          have k1:=s15.at 1 rfl
          have k2:=s15.at 2 rfl
          have k3:=s15.at 3 rfl
          have o0:=s10.at 0 rfl
          have o1:=s10.at 1 rfl
          have o2:=s10.at 2 rfl
          have o3:=s10.at 3 rfl
          have f0:=s10.frozen 0
          have f1:=s10.frozen 1
          have f2:=s10.frozen 2
          have f3:=s10.frozen 3
          go_wp2_with fail
          have hBF:=blk4 s10 (.slice Ap lp cp) (.slice Aq lq cq) (.slice Ag lg cg) (.slice A14 l14 c14)
          have hEF:=ext4 hE6 (Nat.le_refl _) (.slice Ap lp cp) (.slice Aq lq cq) (.slice Ag lg cg) (.slice A14 l14 c14)
          have r0:=ref4 (b0:=Ap) (m0:=lp) (d0:=cp) (b1:=Aq) (m1:=lq) (d1:=cq) (b2:=Ag) (m2:=lg) (d2:=cg) (b3:=A14) (m3:=l14) (d3:=c14) hRP s10
          have r1:=ref4 (b0:=Ap) (m0:=lp) (d0:=cp) (b1:=Aq) (m1:=lq) (d1:=cq) (b2:=Ag) (m2:=lg) (d2:=cg) (b3:=A14) (m3:=l14) (d3:=c14) hRQ s10
          have r2:=ref4 (b0:=Ap) (m0:=lp) (d0:=cp) (b1:=Aq) (m1:=lq) (d1:=cq) (b2:=Ag) (m2:=lg) (d2:=cg) (b3:=A14) (m3:=l14) (d3:=c14) hRG s10
          have r3:=ref4 (b0:=Ap) (m0:=lp) (d0:=cp) (b1:=Aq) (m1:=lq) (d1:=cq) (b2:=Ag) (m2:=lg) (d2:=cg) (b3:=A14) (m3:=l14) (d3:=c14) hRV s10
          have q0:=hBF.at 0 rfl
          have q1:=hBF.at 1 rfl
          have q2:=hBF.at 2 rfl
          have q3:=hBF.at 3 rfl
          refine bodyPost_ret (v:=.tuple #[.agg #[.slice Ap lp cp,.slice Aq lq cq,.slice Ag lg cg,.slice A14 l14 c14],.int .i64 0]) ?_ rfl ?_
          · simp[results,Try.results9,go_sem,q0,q1,q2,q3]
          · rw[Hr.out];exact⟨hEF,Ap,lp,cp,Aq,lq,cq,Ag,lg,cg,A14,l14,c14,rfl,fun _=>⟨Ap,lp,cp,Aq,lq,cq,Ag,lg,cg,A14,l14,c14,rfl,r0,r1,r2,r3⟩⟩
        · rw[decide_eq_false h1]at hzd
          have hf2:Hid (hFrom P T sd 256 0=hFrom P T sd (256 - (c+1)) (c+1)):=hide (by rw[Hf.out,hstep,if_neg h1])
          clear hstep
          go_wp2_with fail
          go_roundw
          case rel=>exact⟨c+1,by omega,by go_num,hEr5,hf2⟩
          case measure=>simp[intOf]<;>omega
end Go.Proofs.Ytbhhjfhepkbfgaa
