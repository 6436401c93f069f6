/- GroupNews, walked: the chain of claims. -/
import Derived.Test.YtbhhjfhepkbfgaaGnGrpY
namespace Go.Proofs.Ytbhhjfhepkbfgaa
set_option linter.unusedSimpArgs false
set_option linter.unusedVariables false
open Go.RowKit
open Nt Sha Pk
attribute [local go_sem] steady steadyUpon Cls same_cell
attribute [local irreducible] wpHead wpTree Sha.sum
theorem Ck.apA {X W w2:World} {B:Nat} {D F D2:Option Addr} {la cD lb cF c2:Nat} {ms rs:List Tr3} {ss ts:List St} {m r:Tr3} {s t:St} (K:Ck X B D F la cD lb cF ms rs ss ts) (S1:StepR X (m3 m) s.N s.b s.ps (Rf X D F)) (S2:RStepR X (m3 r) t.N t.b t.ps (Rf X D F)) (E:Ext X W)
 (hO:OwnK w2 B 37 3 D2 (la+1) c2 (flat3 ms++v3 m)) (hU:Upd (inA D) W w2) (hin:∀k,inA D2 k→inA D k∨k=W.heap.size):Ck w2 B D2 F (la+1) c2 lb cF (ms++[m]) rs (ss++[s]) ts∧RStepR w2 (m3 r) t.N t.b t.ps (Rf w2 D2 F):=by
 have hup:∀k,Rf X D F k→Rf W D F k:=fun k hk=>⟨Nat.lt_of_lt_of_le hk.1 E.size,hk.2⟩
 exact⟨(K.ext E).pushD (S1.apart E (fun _ _ h=>h) hup) hO hU hin,(S2.apart E (fun _ _ h=>h) hup).apart hU (fun k hk=>hk.2.1) (fun k hk=>⟨Nat.lt_of_lt_of_le hk.1 hU.size,fun h=>(hin k h).elim hk.2.1 (fun e=>by have:=hk.1;omega),hk.2.2⟩)⟩
theorem Ck.apB {X W w2:World} {B:Nat} {D F F2:Option Addr} {la cD lb cF c2:Nat} {ms rs:List Tr3} {ss ts:List St} {r:Tr3} {t:St} (K:Ck X B D F la cD lb cF ms rs ss ts) (S2:RStepR X (m3 r) t.N t.b t.ps (Rf X D F)) (E:Ext X W)
 (hO:OwnK w2 B 43 3 F2 (lb+1) c2 (flat3 rs++v3 r)) (hU:Upd (inA F) W w2) (hin:∀k,inA F2 k→inA F k∨k=W.heap.size):Ck w2 B D F2 la cD (lb+1) c2 ms (rs++[r]) ss (ts++[t]):=by
 have hup:∀k,Rf X D F k→Rf W D F k:=fun k hk=>⟨Nat.lt_of_lt_of_le hk.1 E.size,hk.2⟩
 exact(K.ext E).pushF (S2.apart E (fun _ _ h=>h) hup) hO hU hin
theorem Wk.steps {w:World} {B g4 g5 N b n lo:Nat} {A1 A2 B1 B2 D F:Option Addr} {l1 d1 l2 d2 m1 e1 m2 e2 cD cF:Nat} {tb rb:List Tri} {ps:List Nat} (h:Wk w B g4 g5 (.slice A1 l1 d1) (.slice A2 l2 d2) (.slice B1 m1 e1) (.slice B2 m2 e2) D F n cD n cF tb rb ps ps) (hB:lo≤B)
 (h1:NatV w (.agg #[.slice A1 l1 d1]) N) (h2:NatV w (.agg #[.slice A2 l2 d2]) b) (h3:RefV w (.slice B1 m1 e1) N) (h4:RefV w (.slice B2 m2 e2) b) (r1:∀k,inA A1 k→lo≤k∧k<w.heap.size) (r2:∀k,inA A2 k→lo≤k∧k<w.heap.size) (r3:∀k,inA B1 k→lo≤k∧k<w.heap.size) (r4:∀k,inA B2 k→lo≤k∧k<w.heap.size):
 StepR w (m3 ((A1,l1,d1),(A2,l2,d2),(D,n,cD))) N b ps (fun k=>lo≤k∧k<w.heap.size)∧RStepR w (m3 ((B1,m1,e1),(B2,m2,e2),(F,n,cF))) N b ps (fun k=>lo≤k∧k<w.heap.size):=by
 have hcD:=h.oD.cap
 have hcF:=h.oF.cap
 rw[List.length_map,h.ltb]at hcD
 rw[List.length_map,h.lrb]at hcF
 have rD:∀k,inA D k→lo≤k∧k<w.heap.size:=fun k hk=>by have:=h.oD.in_ hk;omega
 have rF:∀k,inA F k→lo≤k∧k<w.heap.size:=fun k hk=>by have:=h.oF.in_ hk;omega
 exact⟨⟨_,_,_,_,_,_,_,_,_,rfl,h1,h2,⟨tb,h.ltb.trans h.lps.symm,h.oD.sl,fun i hi=>⟨(h.nt i (by rw[←h.lps];exact hi)).1,fun k hk=>by have:=((h.nt i (by rw[←h.lps];exact hi)).2 k hk).1;omega⟩⟩,h.lps,hcD.1,hcD.2,r1,r2,rD⟩,
   ⟨_,_,_,_,_,_,_,_,_,rfl,h3,h4,⟨rb,h.lrb.trans h.lqs.symm,h.oF.sl,fun i hi=>⟨(h.rt i (by rw[←h.lqs];exact hi)).1,fun k hk=>by have:=((h.rt i (by rw[←h.lqs];exact hi)).2 k hk).1;omega⟩⟩,h.lqs,hcF.1,hcF.2,r3,r4,rF⟩⟩
theorem gat_st' {cs:List Cl} {i:Nat} (h:i<cs.length):gat (cs.map Cl.st) i=(gat cs i).st:=by
 rw[gat_lt (by simpa using h),gat_lt h]
 simp
theorem ClL.fits' {w:World} {A:Option Addr} {cs:List Cl} (h:ClL w A cs) (hf:∀i,i<cs.length→(gat cs i).n≤10):∀i,i<(cs.map Cl.st).length→FitS 2 (gat (cs.map Cl.st) i):=fun i hi=>by
  have hi':i<cs.length:=by simpa using hi
  obtain⟨b,o, -, -, -, -,h1,h2,h3, -,h5, -⟩:=h i hi'
  rw[gat_st' hi']
  exact⟨fit2 h1.out,fit2 h2.out,fun j hj=>fit2 (h3.out j hj),by have:=hf i hi';show(gat cs i).ps.length≤100;omega⟩
theorem newG_small {p q g:Nat} {sd:List (BitVec 8)} {ss:List St} (hp:p<18446744073709551616) (hq:q<18446744073709551616) (hg:g<18446744073709551616) (hr:∀x,primeB x ss=rprimeB x ss):newG p q g sd ss=if 128<sd.length then (4,0) else rnewG p q g sd ss:=by
  have b1:blen p≤64:=blen_le_iff.2 hp
  have b2:blen q≤64:=blen_le_iff.2 hq
  have b3:blen g≤64:=blen_le_iff.2 hg
  unfold newG rnewG
  by_cases h:128<sd.length
  · rw[if_pos (.inr (.inr (.inr h))),if_pos h]
  · rw[if_neg (by omega),if_neg h,hr p,hr q]
theorem hFrom_lt {P t:Nat} {sd:List (BitVec 8)} (hP:0<P):∀f c h,hFrom P t sd f c=some h→h<P
 | 0,c,h,e=>by cases e
 | f+1,c,h,e=>by
   unfold hFrom at e
   split at e
   · injection e with e
     rw[←e]
     unfold hTry
     exact Nat.mod_lt _ hP
   · exact hFrom_lt hP f (c+1) h e
theorem rnewG_lt {P Q G h:Nat} {sd:List (BitVec 8)} {ss:List St} (e:rnewG P Q G sd ss=(0,h)):h<P:=by
 unfold rnewG at e
 split at e
 · cases e
 · split at e
   · cases e
   · rename_i hA
     split at e
     · cases e
     · cases hf:hFrom P ((P - 1) / Q) sd 256 0 with
       | none=>rw[hf]at e;cases e
       | some v=>
         rw[hf]at e
         have:v=h:=congrArg Prod.snd e
         rw[←this]
         exact hFrom_lt (by omega) _ _ _ hf
set_option maxRecDepth 100000 in
set_option maxHeartbeats 16000000 in
theorem gnews_main (p q g:Nat) (As:Option Addr) (ls cs:Nat) (sd:List (BitVec 8)) (A:Option Addr) (no co:Nat) (cl:List Cl) (w:World) (hp:p<18446744073709551616) (hq:q<18446744073709551616) (hg:g<18446744073709551616) (hS:Sl by8 w As sd) (hsl:sd.length=ls) (hsc:ls≤cs) (hsm:cs≤maxLen) (hls:ls≤200) (hL:ClL w A cl) (hn:cl.length=no) (hn2:no≤3):
 Calls Try.prog 3 #[.int .u64 (p:Int),.int .u64 (q:Int),.int .u64 (g:Int),.slice As ls cs,.slice A no co] w fun e w'=>e=.returned (.bool true)∧Ext w w':=by
 have Hn:=hide hn
 have HL:=hide hL
 have HS:=hide hS
 have Hsl:=hide hsl
 have Hsc:=hide (And.intro hsc hsm)
 have Hp:=hide hp
 have Hq:=hide hq
 have Hg:=hide hg
 have hls9:¬(200:Int)<(ls:Int):=by omega
 have hn3:¬(3:Int)<(no:Int):=by omega
 clear hn hL hS hsl hsc hsm hp hq hg
 go_enter Try.func3,Try.ntmps3
 go_wp2_with fail
 refine(glives_any _).mono ?_
 rintro e w1 ⟨rfl,hU1⟩
 have Hls9:=hide hls9
 go_wp2_with fail
 clear hls9 hn3
 obtain⟨Bz,hBz⟩:∃Bz,Bz=w.heap.size:=⟨_,rfl⟩
 go_loopw [11,12,39] (fun a b i wr=>∃(j la lb:Nat) (D:Option Addr) (cD:Nat) (F:Option Addr) (cF:Nat) (ms rs:List Tr3),j≤no∧la=j∧lb=j∧a=.slice D la cD∧b=.slice F lb cF∧i=.int .i64 (j:Int)∧Ck wr Bz D F la cD lb cF ms rs ((cl.take j).map Cl.st) ((cl.take j).map Cl.st)∧Ext w wr∧Hid (∀i,i<j→(gat cl i).n≤10)) (fun _ _ i _=>no - (intOf i).toNat)
 case atStart=>exact⟨0,0,0,none,0,none,0,[],[],Nat.zero_le _,rfl,rfl,rfl,rfl,rfl,Ck.nil,hU1,hide (fun i hi=>absurd hi (by omega))⟩
 case round=>
  clear hU1
  refine name_w (fun Z hZ=>?_)
  subst hZ
  obtain⟨jo,la,lb,Do,cDo,Fo,cFo,ms,rs,hjo,hla,hlb,rfl,rfl,rfl,hKo,hE0⟩:=hrel
  obtain⟨hE0,H10⟩:=hE0
  have hBr:Bz≤Z.heap.size:=by rw[hBz];exact hE0.size
  have HKo:=hide hKo
  have Hla:=hide hla
  have Hlb:=hide hlb
  have HE0:=hide hE0
  by_cases hlt:jo<no
  case neg=>
   obtain rfl:jo=no:=by omega
   have hltI:¬(jo:Int)<(jo:Int):=by omega
   have hSt:=HKo.out.steps
   have htk:cl.take jo=cl:=List.take_of_length_le (by rw[Hn.out];exact Nat.le_refl _)
   rw[htk]at hSt
   subst hla
   subst hlb
   have hcD:=hKo.oD.cap
   have hcF:=hKo.oF.cap
   clear HKo hKo htk
   have hf:=HL.out.fits' (fun i hi=>H10.out i (by rw[←Hn.out];exact hi))
   have hno:=anyLong_no HL.out
   obtain⟨ss,hss⟩:∃ss,ss=cl.map Cl.st:=⟨_,rfl⟩
   have hsl2:ss.length=lb:=by rw[hss,List.length_map];exact Hn.out
   rw[←hss]at hf hno hSt
   have hpr:∀x,primeB x ss=rprimeB x ss:=fun x=>rprimeB_eq (by omega) hno
   have h2:∀x,rprimeB x ss=true→2≤x:=fun x hx=>(primeB_pr ((hpr x).trans hx)).1
   obtain⟨r,hr⟩:∃r,r=newG p q g sd ss:=⟨_,rfl⟩
   have hr2:r=if 128<ls then (4,0) else rnewG p q g sd ss:=by rw[hr,newG_small Hp.out Hq.out Hg.out hpr,Hsl.out]
   have Hf:=hide hf
   have H2:=hide h2
   have Hr:=hide hr
   have Hr2:=hide hr2
   have Hsl2:=hide hsl2
   have HSt:=hide hSt
   clear hf hno hss hsl2 hpr h2 hr hr2 hSt H10
   have hls200:ls≤200:=hls
   go_wp2_with (at_builtin;refine wpList_apd by8 one8 Try.el8 [] sd sd ls rfl Hsl.out (by omega) (by unfold maxLen;omega) rfl rfl rfl rfl (Own.lit by8 Z 5 [] (Nat.le_refl _) (Nat.zero_le _)) rfl Hsl.out ((HS.out.ext hE0).ext ((Upd.refl _ _).alloc _)) (((Upd.refl (fun _=>False) _).alloc _).size) ?_;intro A4 c4 w4 hO4 hU4 hin4)
   have hE4:Ext Z w4:=upd_new hU4 ((Upd.refl _ _).alloc _) (fun k hk=>by have:k=Z.heap.size:=(by simpa[inA] using hk.symm);omega)
   have hp4:=Own.pt hO4 Hsl.out
   clear hU4 hin4
   refine(new_any p _ Hp.out).mono ?_
   rintro e w5 ⟨A5,l5,c5,rfl,hV5,hU5⟩
   go_wp2_with fail
   refine(new_any q _ Hq.out).mono ?_
   rintro e w6 ⟨A6,l6,c6,rfl,hV6,hU6⟩
   go_wp2_with fail
   refine(new_any g _ Hg.out).mono ?_
   rintro e w7 ⟨A7,l7,c7,rfl,hV7,hU7⟩
   have hE57:=(hU5.trans hU6).trans hU7
   have hE7:=hE4.trans hE57
   go_wp2_with fail
   refine(gNew_any A5 l5 c5 A6 l6 c6 A7 l7 c7 A4 ls c4 p q g 2 sd Do lb cDo ss w7 (hV5.ext (hU6.trans hU7)) (hV6.ext hU7) hV7 (hp4.2.2.2.ext hE57) hp4.1 hp4.2.1 hp4.2.2.1 (HSt.out.1.ext hE7) Hsl2.out (by omega) (fit2 Hp.out) (fit2 Hq.out) (fit2 Hg.out) Hf.out (by omega) (by omega)).mono ?_
   rw[←Hr.out]
   rintro e w8 ⟨hU8,hbad,hok⟩
   have hE48:=hE57.trans hU8
   have hE8:=hE4.trans hE48
   clear hV5 hV6 hV7 hU5 hU6 hU7 hE57 hE7 hU8 hp4
   by_cases hlong:128<ls
   · have hlI:(128:Int)<(ls:Int):=by omega
     obtain rfl:r=(4,0):=by rw[Hr2.out,if_pos hlong]
     obtain rfl:=hbad (by decide)
     have hEf:=hE0.trans hE8
     clear hok hbad hO4
     go_wp2_with fail
     go_ret
     exact⟨rfl,hEf⟩
   have hlI:¬(128:Int)<(ls:Int):=by omega
   have hrn:r=rnewG p q g sd ss:=by rw[Hr2.out,if_neg hlong]
   have Hrn:=hide hrn
   clear hrn
   obtain⟨er,ho⟩:=r
   dsimp only at hbad hok
   by_cases he:er=0
   case neg=>
    obtain rfl:=hbad he
    have heb:(er != 0)=true:=by simpa using he
    clear hbad hok
    go_wp2_with fail
    refine(rsmall_any p _ Hp.out).mono ?_
    rintro e v5 ⟨B5,m5,d5,rfl,hV5,hU5⟩
    go_wp2_with fail
    refine(rsmall_any q _ Hq.out).mono ?_
    rintro e v6 ⟨B6,m6,d6,rfl,hV6,hU6⟩
    go_wp2_with fail
    refine(rsmall_any g _ Hg.out).mono ?_
    rintro e v7 ⟨B7,m7,d7,rfl,hV7,hU7⟩
    have hEv:=(hU5.trans hU6).trans hU7
    have hE7:=hE8.trans hEv
    go_wp2_with fail
    refine(rgNew_any _ _ _ p q g As ls cs sd Fo lb cFo ss v7 (hV5.ext (hU6.trans hU7)) (hV6.ext hU7) hV7 (HS.out.ext (hE0.trans hE7)) Hsl.out Hsc.out.1 Hsc.out.2 (by omega) (HSt.out.2.ext hE7) Hsl2.out (by omega) (fit2 Hp.out) (fit2 Hq.out) (fit2 Hg.out) Hf.out H2.out).mono ?_
    rw[←Hrn.out]
    rintro e v8 ⟨hU8,C1,i1,j1,C2,i2,j2,C3,i3,j3,C4,i4,j4,rfl,hRG⟩
    have hE8v:=hE7.trans hU8
    have hE4v:=(hE48.trans hEv).trans hU8
    have hEv8:=hEv.trans hU8
    have hal:Ext v8 (v8.alloc (.cells #[.slice C1 i1 j1,.slice C2 i2 j2,.slice C3 i3 j3,.slice C4 i4 j4] 51)):=(Upd.refl _ _).alloc _
    have b22:Blk (v8.alloc (.cells #[.slice C1 i1 j1,.slice C2 i2 j2,.slice C3 i3 j3,.slice C4 i4 j4] 51)) v8.heap.size 51 #[.slice C1 i1 j1,.slice C2 i2 j2,.slice C3 i3 j3,.slice C4 i4 j4]:=Blk.new _ _ _
    have hk1:=run_str (P:=Try.prog) (c:=c4) Try.under_bs Try.under8 Try.underS (hO4.sl.ext (hE4v.trans hal)) Hsl.out
    have hk2:=run_str (P:=Try.prog) (c:=cs) Try.under_bs Try.under8 Try.underS (HS.out.ext (hE0.trans (hE8v.trans hal))) Hsl.out
    obtain⟨ST,hST⟩:∃ST,ST=str sd:=⟨_,rfl⟩
    rw[←hST]at hk1 hk2
    clear hST
    clear hV5 hV6 hV7 hU5 hU6 hU7 hU8 hEv hE7 hO4
    dsimp only at hRG
    have hEf:=hE0.trans (hE8v.trans hal)
    clear hRG hEv8 b22
    go_wp2_with fail
    clear hk1 hk2
    have hundef:undef=Value.tuple #[]:=rfl
    refine wp_region_plan (Ext _) 23 [(false,0),(false,1),(false,2),(false,3),(false,5),(false,6),(true,4),(true,7),(false,8),(false,9),(false,11),(false,12),(true,10),(true,13),(false,14),(false,15),(false,16),(false,18),(true,17),(true,19),(false,20),(false,21),(false,22)] (by kernel_rfl) (by kernel_rfl) (Upd.refl _ _) (fun hne=>?_)
    repeat (refine head_q rfl (fun K hK=>?_);have hK2:=hide hK;clear hK;go_simp;refine hK2.out _ ?_;clear hK2 K)
    refine head_l rfl ?_
    go_wp2_with fail
    refine⟨Cls (Ext _),fun _ h=>h,⟨⟨_,(Upd.refl _ _)⟩,rfl⟩,?_⟩
    repeat (refine head_q rfl (fun K hK=>?_);have hK2:=hide hK;clear hK;go_simp;refine hK2.out _ ?_;clear hK2 K)
    refine head_l rfl ?_
    go_wp2_with fail
    refine⟨Cls (Ext _),fun _ h=>h,⟨⟨_,(Upd.refl _ _)⟩,rfl⟩,?_⟩
    repeat (refine head_q rfl (fun K hK=>?_);have hK2:=hide hK;clear hK;go_simp;refine hK2.out _ ?_;clear hK2 K)
    refine head_l rfl ?_
    go_wp2_with fail
    refine⟨Cls (Ext _),fun _ h=>h,⟨⟨_,(Upd.refl _ _)⟩,rfl⟩,?_⟩
    repeat (refine head_q rfl (fun K hK=>?_);have hK2:=hide hK;clear hK;go_simp;refine hK2.out _ ?_;clear hK2 K)
    refine head_l rfl ?_
    go_wp2_with fail
    refine⟨Cls (Ext _),fun _ h=>h,⟨⟨_,(Upd.refl _ _)⟩,rfl⟩,?_⟩
    repeat (refine head_q rfl (fun K hK=>?_);have hK2:=hide hK;clear hK;go_simp;refine hK2.out _ ?_;clear hK2 K)
    refine head_l rfl ?_
    go_wp2_with fail
    refine⟨Cls (Ext _),fun _ h=>h,⟨⟨_,(Upd.refl _ _)⟩,rfl⟩,?_⟩
    repeat (refine head_q rfl (fun K hK=>?_);have hK2:=hide hK;clear hK;go_simp;refine hK2.out _ ?_;clear hK2 K)
    refine head_l rfl ?_
    go_wp2_with fail
    refine⟨Cls (Ext _),fun _ h=>h,⟨⟨_,(Upd.refl _ _)⟩,rfl⟩,?_⟩
    repeat (refine head_q rfl (fun K hK=>?_);have hK2:=hide hK;clear hK;go_simp;refine hK2.out _ ?_;clear hK2 K)
    refine head_nil ?_
    try simp only[List.drop_succ_cons,List.drop_zero]
    go_wp2_with fail
    go_ret
    exact⟨rfl,hEf.drew⟩
   case pos=>
    subst he
    obtain⟨gr,rfl,hGV⟩:=hok rfl
    clear hbad hok
    go_wp2_with fail
    refine(rsmall_any p _ Hp.out).mono ?_
    rintro e v5 ⟨B5,m5,d5,rfl,hV5,hU5⟩
    go_wp2_with fail
    refine(rsmall_any q _ Hq.out).mono ?_
    rintro e v6 ⟨B6,m6,d6,rfl,hV6,hU6⟩
    go_wp2_with fail
    refine(rsmall_any g _ Hg.out).mono ?_
    rintro e v7 ⟨B7,m7,d7,rfl,hV7,hU7⟩
    have hEv:=(hU5.trans hU6).trans hU7
    have hE7:=hE8.trans hEv
    go_wp2_with fail
    refine(rgNew_any _ _ _ p q g As ls cs sd Fo lb cFo ss v7 (hV5.ext (hU6.trans hU7)) (hV6.ext hU7) hV7 (HS.out.ext (hE0.trans hE7)) Hsl.out Hsc.out.1 Hsc.out.2 (by omega) (HSt.out.2.ext hE7) Hsl2.out (by omega) (fit2 Hp.out) (fit2 Hq.out) (fit2 Hg.out) Hf.out H2.out).mono ?_
    rw[←Hrn.out]
    rintro e v8 ⟨hU8,C1,i1,j1,C2,i2,j2,C3,i3,j3,C4,i4,j4,rfl,hRG⟩
    have hE8v:=hE7.trans hU8
    have hE4v:=(hE48.trans hEv).trans hU8
    have hEv8:=hEv.trans hU8
    have hal:Ext v8 (v8.alloc (.cells #[.slice C1 i1 j1,.slice C2 i2 j2,.slice C3 i3 j3,.slice C4 i4 j4] 51)):=(Upd.refl _ _).alloc _
    have b22:Blk (v8.alloc (.cells #[.slice C1 i1 j1,.slice C2 i2 j2,.slice C3 i3 j3,.slice C4 i4 j4] 51)) v8.heap.size 51 #[.slice C1 i1 j1,.slice C2 i2 j2,.slice C3 i3 j3,.slice C4 i4 j4]:=Blk.new _ _ _
    have hk1:=run_str (P:=Try.prog) (c:=c4) Try.under_bs Try.under8 Try.underS (hO4.sl.ext (hE4v.trans hal)) Hsl.out
    have hk2:=run_str (P:=Try.prog) (c:=cs) Try.under_bs Try.under8 Try.underS (HS.out.ext (hE0.trans (hE8v.trans hal))) Hsl.out
    obtain⟨ST,hST⟩:∃ST,ST=str sd:=⟨_,rfl⟩
    rw[←hST]at hk1 hk2
    clear hST
    clear hV5 hV6 hV7 hU5 hU6 hU7 hU8 hEv hE7 hO4
    dsimp only at hRG
    have hRv:=hRG (by first | rfl | trivial)
    clear hRG
    have hoF:Fit 2 ho:=(fit2 Hp.out).le (Nat.le_of_lt (rnewG_lt Hrn.out.symm))
    obtain⟨C1',i1',j1',C2',i2',j2',C3',i3',j3',C4',i4',j4',hce,hg1,hg2,hg3,hg4⟩:=id hRv
    simp only[Value.agg.injEq,Array.mk.injEq,List.cons.injEq,Value.slice.injEq,and_true]at hce
    obtain⟨⟨rfl,rfl,rfl⟩,⟨rfl,rfl,rfl⟩,⟨rfl,rfl,rfl⟩,⟨rfl,rfl,rfl⟩⟩:=hce
    go_wp2_with fail
    clear hk1 hk2
    obtain⟨V9,hV9⟩:∃V,V=v8.alloc (.cells #[.slice C1 i1 j1,.slice C2 i2 j2,.slice C3 i3 j3,.slice C4 i4 j4] 51):=⟨_,rfl⟩
    rw[←hV9]at hal b22 ⊢
    clear hV9
    have hEf:=hE0.trans (hE8v.trans hal)
    have hd:Ext V9 V9.drew:=(Upd.refl _ _).drew
    have hX8:=(hEv8.trans hal).trans hd
    have hXr:=hal.trans hd
    have y0:=fun y:Wd (Ext V9.drew)=>y.ok.cellv ((b22.ext hd).at 0 rfl)
    have y1:=fun y:Wd (Ext V9.drew)=>y.ok.cellv ((b22.ext hd).at 1 rfl)
    have y2:=fun y:Wd (Ext V9.drew)=>y.ok.cellv ((b22.ext hd).at 2 rfl)
    have y3:=fun y:Wd (Ext V9.drew)=>y.ok.cellv ((b22.ext hd).at 3 rfl)
    have hFg:Fit 2 g:=fit2 Hg.out
    have hbp:blen p≤64:=blen_le_iff.2 Hp.out
    refine wp_region_plan (Ext _) 23 [(false,0),(false,1),(false,2),(false,3),(false,5),(false,6),(true,4),(true,7),(false,8),(false,9),(false,11),(false,12),(true,10),(true,13),(false,14),(false,15),(false,16),(false,18),(true,17),(true,19),(false,20),(false,21),(false,22)] (by kernel_rfl) (by kernel_rfl) (Upd.refl _ _) (fun hne=>?_)
    repeat (refine head_q rfl (fun K hK=>?_);have hK2:=hide hK;clear hK;go_simp;refine hK2.out _ ?_;clear hK2 K)
    refine head_l rfl ?_
    go_wp2_with (go_at_call 11;go_must (refine(gH_any gr p q g ho _ (hGV.ext hX8)).mono ?_);rintro e x1 ⟨D1,n1,o1,rfl,hD1,hX1⟩)
    refine⟨Cls (Ext _),fun _ h=>h,⟨⟨_,hX1⟩,rfl⟩,?_⟩
    repeat (refine head_q rfl (fun K hK=>?_);have hK2:=hide hK;clear hK;go_simp;refine hK2.out _ ?_;clear hK2 K)
    refine head_l rfl ?_
    go_wp2_with (go_at_call 10;go_must (refine(lsame_any _ _ ho ho 2 _ hD1 (hg4.ext (hXr.trans hX1)) hoF hoF (by omega)).mono ?_);rw[decide_eq_true rfl];rintro e x2 ⟨rfl,hX2⟩;replace hX2:=hX1.trans hX2)
    refine⟨Cls (Ext _),fun _ h=>h,⟨⟨_,hX2⟩,rfl⟩,?_⟩
    repeat (refine head_q rfl (fun K hK=>?_);have hK2:=hide hK;clear hK;go_simp;refine hK2.out _ ?_;clear hK2 K)
    refine head_l rfl ?_
    go_wp2_with (go_at_call 12;go_must (refine(gG_any gr p q g ho _ (hGV.ext (hX8.trans hX2))).mono ?_);rintro e x3 ⟨D3,n3,o3,rfl,hD3,hX3⟩;have hX3g:=hX2.trans hX3)
    refine⟨Cls (Ext _),fun _ h=>h,⟨⟨_,hX3g⟩,rfl⟩,?_⟩
    repeat (refine head_q rfl (fun K hK=>?_);have hK2:=hide hK;clear hK;go_simp;refine hK2.out _ ?_;clear hK2 K)
    refine head_l rfl ?_
    go_wp2_with (go_at_call 10;go_must (refine(lsame_any _ _ g g 2 _ hD3 (hg3.ext (hXr.trans hX3g)) hFg hFg (by omega)).mono ?_);rw[decide_eq_true rfl];rintro e x4 ⟨rfl,hX4⟩;replace hX4:=hX3g.trans hX4)
    refine⟨Cls (Ext _),fun _ h=>h,⟨⟨_,hX4⟩,rfl⟩,?_⟩
    repeat (refine head_q rfl (fun K hK=>?_);have hK2:=hide hK;clear hK;go_simp;refine hK2.out _ ?_;clear hK2 K)
    refine head_l rfl ?_
    go_wp2_with (go_at_call 13;go_must (refine(gSize_any gr p q g ho _ (hGV.ext (hX8.trans hX4))).mono ?_);rintro e x5 ⟨rfl,rfl⟩)
    refine⟨Cls (Ext _),fun _ h=>h,⟨⟨_,hX4⟩,rfl⟩,?_⟩
    repeat (refine head_q rfl (fun K hK=>?_);have hK2:=hide hK;clear hK;go_simp;refine hK2.out _ ?_;clear hK2 K)
    refine head_l rfl ?_
    go_wp2_with (go_at_call 14;go_must (refine(rsize_any _ _ p q g ho (hRv.ext (hXr.trans hX4)) (by omega)).mono ?_);rintro e x6 ⟨rfl,hX6⟩;have hX6g:=hX4.trans hX6)
    refine⟨Cls (Ext _),fun _ h=>h,⟨⟨_,hX6g⟩,rfl⟩,?_⟩
    repeat (refine head_q rfl (fun K hK=>?_);have hK2:=hide hK;clear hK;go_simp;refine hK2.out _ ?_;clear hK2 K)
    clear y0 y1 y2 y3
    refine head_nil ?_
    try simp only[List.drop_succ_cons,List.drop_zero]
    have hEl:=(hEf.trans hd).trans hX6g
    go_wp2_with fail
    go_ret
    exact⟨rfl,hEl⟩
  case pos=>
   have hltI:(jo:Int)<(no:Int):=by omega
   obtain⟨bo,oo,rfl,q0,q1,q2,hok⟩:=(HL.out.ext hE0) jo (by rw[Hn.out];exact hlt)
   obtain⟨x,hx⟩:∃x,x=gat cl jo:=⟨_,rfl⟩
   have htk:(cl.take (jo+1)).map Cl.st=(cl.take jo).map Cl.st++[x.st]:=by rw[List.take_succ_eq_append_getElem (by rw[Hn.out];exact hlt),hx,gat_lt (by rw[Hn.out];exact hlt),List.map_append];rfl
   rw[←hx]at q0 q1 q2 hok
   obtain⟨hN,hb,hps,hSp,hpn,hnc,hcm⟩:=hok
   have HXn:=hide (show(gat cl jo).n=x.n by rw[hx])
   obtain⟨N,b,P,n,c,ps⟩:=x
   dsimp only at q0 q1 q2 hN hb hps hSp hpn hnc hcm
   have Htk:=hide htk
   have Hn':=hide hpn
   have HSp:=hide hSp
   have hn2:n≤9223372036854775807:=by unfold maxLen at hcm;omega
   clear hx htk hSp hpn hKo hla hlb hE0
   go_wp2_with fail
   refine name_w (fun W hW=>?_)
   have c1:Three W Z.heap.size 30 (.int .u64 N) (.int .u64 b) (.slice P n c):=by rw[hW];exact Three.new _ _ _ _ _
   have hE:Ext Z W:=by rw[hW];exact(Upd.refl _ Z).alloc _
   have hZW:=hE.size
   clear hW q0 q1 q2
   have k0:=fun z:Wd (Ext W.drew)=>(z.ok.cell (p:=⟨Z.heap.size,0,none⟩) c1.drew.lt (fun h=>h)).trans c1.drew.cell0
   have k1:=fun z:Wd (Ext W.drew)=>(z.ok.cell (p:=⟨Z.heap.size,1,none⟩) c1.drew.lt (fun h=>h)).trans c1.drew.cell1
   go_cut [15] (fun s4 wx=>∃(g:Nat) (A1:Option Addr) (l1 c1:Nat) (A2:Option Addr) (l2 c2:Nat),s4=.pointer (some ⟨g,0,none⟩)∧Three wx g 37 (.slice A1 l1 c1) (.slice A2 l2 c2) (.slice none 0 0)∧NatV wx (.agg #[.slice A1 l1 c1]) N∧NatV wx (.agg #[.slice A2 l2 c2]) b∧W.heap.size≤g∧New W wx A1∧New W wx A2∧Ext W wx)
   case first=>
    refine wp_region_tree (Ext _) 8 (.q 0 (.q 1 (.q 3 (.q 4 (.two 2 7 (.two 5 7 (.q 6 (.l 7 .done)) (.l 5 (.q 6 .done))) (.l 2 (.l 5 (.q 6 .done)))))))) (by kernel_rfl) (by kernel_rfl) (Upd.refl _ _) (fun hne=>?_)
    repeat (refine tree_q rfl (fun K hK=>?_);go_simp;refine hK _ ?_;clear hK K)
    refine tree_two rfl rfl ?_ ?_
    · go_wp2_with fail
      refine(new_fresh N _ hN.out).mono ?_
      rintro e w1 ⟨A1,l1,d1,rfl,hf1,hV1,hU1⟩
      go_wp2_with fail
      refine⟨_,fun _ h=>h,⟨⟨_,hU1⟩,rfl⟩,?_⟩
      repeat (refine tree_q rfl (fun K hK=>?_);go_simp;refine hK _ ?_;clear hK K)
      refine tree_two rfl rfl ?_ ?_
      · go_wp2_with fail
        refine(new_fresh b _ hb.out).mono ?_
        rintro e w2 ⟨A2,l2,d2,rfl,hf2,hV2,hU2⟩
        go_wp2_with fail
        refine⟨_,fun _ h=>h,⟨⟨_,(hU1.trans hU2)⟩,rfl⟩,?_⟩
        repeat (refine tree_q rfl (fun K hK=>?_);go_simp;refine hK _ ?_;clear hK K)
        refine tree_l rfl ?_
        go_wp2_with fail
        refine⟨_,fun _ h=>h,⟨⟨_,((hU1.trans hU2).alloc _)⟩,rfl⟩,?_⟩
        repeat (refine tree_q rfl (fun K hK=>?_);go_simp;refine hK _ ?_;clear hK K)
        refine tree_done ?_
        try simp only[List.drop_succ_cons,List.drop_zero]
        go_wp2_with fail
        go_meet
        have hE2:Ext W w2:=(hU1.trans hU2).undrew
        exact⟨_,_,_,_,_,_,_,rfl,Three.new _ _ _ _ _,(hV1.ext hU2).ext ((Upd.refl _ _).alloc _),hV2.ext ((Upd.refl _ _).alloc _),hE2.size,New.up hf1 (Nat.le_refl _) (by have:=hU2.size;simp;omega),New.up hf2 hU1.size (by simp),hE2.alloc _⟩
      · go_wp2_with fail
        refine⟨_,fun _ h=>h,⟨⟨_,(hU1.alloc _)⟩,rfl⟩,?_⟩
        repeat (refine tree_q rfl (fun K hK=>?_);go_simp;refine hK _ ?_;clear hK K)
        have t4:Three (w1.alloc (.cells #[.slice none 0 0,.slice none 0 0,.slice none 0 0] 37)) w1.heap.size 37 (.slice none 0 0) (.slice none 0 0) (.slice none 0 0):=Three.new _ _ _ _ _
        refine tree_l rfl ?_
        go_wp2_with (refine(new_fresh b _ hb.out).mono ?_;rintro e w2 ⟨A2,l2,d2,rfl,hf2,hV2,hU2⟩)
        refine⟨_,fun _ h=>h,⟨⟨_,((hU1.alloc _).trans hU2)⟩,rfl⟩,?_⟩
        repeat (refine tree_q rfl (fun K hK=>?_);go_simp;refine hK _ ?_;clear hK K)
        replace t4:=t4.ext hU2
        have q0:=t4.cell0
        have q1:=t4.cell1
        have q2:=t4.cell2
        have f0:=t4.frozen 0
        have f1:=t4.frozen 1
        have f2:=t4.frozen 2
        refine tree_done ?_
        try simp only[List.drop_succ_cons,List.drop_zero]
        go_wp2_with fail
        go_meet
        have hE1:Ext W w1:=hU1.undrew
        have hE2:Ext W w2:=((hU1.alloc _).trans hU2).undrew
        obtain⟨s4,hs4⟩:=store3 t4 (.slice A1 l1 d1) (.slice A2 l2 d2) (.slice none 0 0)
        exact⟨_,_,_,_,_,_,_,rfl,s4,((hV1.ext ((Upd.refl _ _).alloc _)).ext hU2).store3 t4 rfl rfl rfl hs4,hV2.store3 t4 rfl rfl rfl hs4,hE1.size,New.up hf1 (Nat.le_refl _) (by have:=hU2.size;simp at this ⊢;omega),New.up hf2 (by have:=hE1.size;simp;omega) (by simp),Upd.fresh hs4 hE2 (fun k hk=>by have:k=w1.heap.size:=hk;rw[this];exact hE1.size)⟩
    · go_wp2_with fail
      refine⟨_,fun _ h=>h,⟨⟨_,((Upd.refl _ _).alloc _)⟩,rfl⟩,?_⟩
      repeat (refine tree_q rfl (fun K hK=>?_);go_simp;refine hK _ ?_;clear hK K)
      have t4:Three (W.drew.alloc (.cells #[.slice none 0 0,.slice none 0 0,.slice none 0 0] 37)) W.heap.size 37 (.slice none 0 0) (.slice none 0 0) (.slice none 0 0):=Three.new _ _ _ _ _
      have hU0:Ext W.drew (W.drew.alloc (.cells #[.slice none 0 0,.slice none 0 0,.slice none 0 0] 37)):=(Upd.refl _ _).alloc _
      refine tree_l rfl ?_
      go_wp2_with (refine(new_fresh N _ hN.out).mono ?_;rintro e w1 ⟨A1,l1,d1,rfl,hf1,hV1,hU1⟩)
      refine⟨_,fun _ h=>h,⟨⟨_,(hU0.trans hU1)⟩,rfl⟩,?_⟩
      repeat (refine tree_q rfl (fun K hK=>?_);go_simp;refine hK _ ?_;clear hK K)
      refine tree_l rfl ?_
      go_wp2_with (refine(new_fresh b _ hb.out).mono ?_;rintro e w2 ⟨A2,l2,d2,rfl,hf2,hV2,hU2⟩)
      refine⟨_,fun _ h=>h,⟨⟨_,((hU0.trans hU1).trans hU2)⟩,rfl⟩,?_⟩
      repeat (refine tree_q rfl (fun K hK=>?_);go_simp;refine hK _ ?_;clear hK K)
      replace t4:=(t4.ext hU1).ext hU2
      have q0:=t4.cell0
      have q1:=t4.cell1
      have q2:=t4.cell2
      have f0:=t4.frozen 0
      have f1:=t4.frozen 1
      have f2:=t4.frozen 2
      refine tree_done ?_
      try simp only[List.drop_succ_cons,List.drop_zero]
      go_wp2_with fail
      go_meet
      have hE2:Ext W w2:=((hU0.trans hU1).trans hU2).undrew
      obtain⟨s4,hs4⟩:=store3 t4 (.slice A1 l1 d1) (.slice A2 l2 d2) (.slice none 0 0)
      exact⟨_,_,_,_,_,_,_,rfl,s4,(hV1.ext hU2).store3 t4 rfl rfl rfl hs4,hV2.store3 t4 rfl rfl rfl hs4,Nat.le_refl _,New.up hf1 (by simp) (by have:=hU2.size;simp at this ⊢;omega),New.up hf2 (by have:=hU1.size;simp at this ⊢;omega) (by simp),Upd.fresh hs4 hE2 (fun k hk=>by have:k=W.heap.size:=hk;rw[this];exact Nat.le_refl _)⟩
   case rest=>
    obtain⟨g4,A1,l1,d1,A2,l2,d2,rfl,t4,hV1,hV2,hg4,hnA1,hnA2,hEc⟩:=hcut
    clear k0 k1
    go_wp2_with fail
    refine name_w (fun V hV=>?_)
    rw[←hV]at t4 hV1 hV2 hEc hnA1 hnA2
    have hWV:W.heap.size≤V.heap.size:=hEc.size
    replace c1:=c1.ext hEc
    replace hE:=hE.trans hEc
    clear hV hEc
    have k0:=fun z:Wd (Ext V.drew)=>(z.ok.cell (p:=⟨Z.heap.size,0,none⟩) c1.drew.lt (fun h=>h)).trans c1.drew.cell0
    have k1:=fun z:Wd (Ext V.drew)=>(z.ok.cell (p:=⟨Z.heap.size,1,none⟩) c1.drew.lt (fun h=>h)).trans c1.drew.cell1
    go_cut [16] (fun s5 wx=>∃(g:Nat) (A1:Option Addr) (l1 c1:Nat) (A2:Option Addr) (l2 c2:Nat),s5=.pointer (some ⟨g,0,none⟩)∧Three wx g 43 (.slice A1 l1 c1) (.slice A2 l2 c2) (.slice none 0 0)∧RefV wx (.slice A1 l1 c1) N∧RefV wx (.slice A2 l2 c2) b∧V.heap.size≤g∧New V wx A1∧New V wx A2∧Ext V wx)
    case first=>
     refine wp_region_tree (Ext _) 8 (.q 0 (.q 1 (.q 3 (.q 4 (.two 2 7 (.two 5 7 (.q 6 (.l 7 .done)) (.l 5 (.q 6 .done))) (.l 2 (.l 5 (.q 6 .done)))))))) (by kernel_rfl) (by kernel_rfl) (Upd.refl _ _) (fun hne=>?_)
     repeat (refine tree_q rfl (fun K hK=>?_);go_simp;refine hK _ ?_;clear hK K)
     refine tree_two rfl rfl ?_ ?_
     · go_wp2_with fail
       refine(rsmall_fresh N _ hN.out).mono ?_
       rintro e w1 ⟨B1,m1,e1,rfl,hf1,hV1,hU1⟩
       go_wp2_with fail
       refine⟨_,fun _ h=>h,⟨⟨_,hU1⟩,rfl⟩,?_⟩
       repeat (refine tree_q rfl (fun K hK=>?_);go_simp;refine hK _ ?_;clear hK K)
       refine tree_two rfl rfl ?_ ?_
       · go_wp2_with fail
         refine(rsmall_fresh b _ hb.out).mono ?_
         rintro e w2 ⟨B2,m2,e2,rfl,hf2,hV2,hU2⟩
         go_wp2_with fail
         refine⟨_,fun _ h=>h,⟨⟨_,(hU1.trans hU2)⟩,rfl⟩,?_⟩
         repeat (refine tree_q rfl (fun K hK=>?_);go_simp;refine hK _ ?_;clear hK K)
         refine tree_l rfl ?_
         go_wp2_with fail
         refine⟨_,fun _ h=>h,⟨⟨_,((hU1.trans hU2).alloc _)⟩,rfl⟩,?_⟩
         repeat (refine tree_q rfl (fun K hK=>?_);go_simp;refine hK _ ?_;clear hK K)
         refine tree_done ?_
         try simp only[List.drop_succ_cons,List.drop_zero]
         go_wp2_with fail
         go_meet
         have hE2:Ext V w2:=(hU1.trans hU2).undrew
         exact⟨_,_,_,_,_,_,_,rfl,Three.new _ _ _ _ _,(hV1.ext hU2).ext ((Upd.refl _ _).alloc _),hV2.ext ((Upd.refl _ _).alloc _),hE2.size,New.up hf1 (Nat.le_refl _) (by have:=hU2.size;simp;omega),New.up hf2 hU1.size (by simp),hE2.alloc _⟩
       · go_wp2_with fail
         refine⟨_,fun _ h=>h,⟨⟨_,(hU1.alloc _)⟩,rfl⟩,?_⟩
         repeat (refine tree_q rfl (fun K hK=>?_);go_simp;refine hK _ ?_;clear hK K)
         have t4:Three (w1.alloc (.cells #[.slice none 0 0,.slice none 0 0,.slice none 0 0] 43)) w1.heap.size 43 (.slice none 0 0) (.slice none 0 0) (.slice none 0 0):=Three.new _ _ _ _ _
         refine tree_l rfl ?_
         go_wp2_with (refine(rsmall_fresh b _ hb.out).mono ?_;rintro e w2 ⟨B2,m2,e2,rfl,hf2,hV2,hU2⟩)
         refine⟨_,fun _ h=>h,⟨⟨_,((hU1.alloc _).trans hU2)⟩,rfl⟩,?_⟩
         repeat (refine tree_q rfl (fun K hK=>?_);go_simp;refine hK _ ?_;clear hK K)
         replace t4:=t4.ext hU2
         have q0:=t4.cell0
         have q1:=t4.cell1
         have q2:=t4.cell2
         have f0:=t4.frozen 0
         have f1:=t4.frozen 1
         have f2:=t4.frozen 2
         refine tree_done ?_
         try simp only[List.drop_succ_cons,List.drop_zero]
         go_wp2_with fail
         go_meet
         have hE1:Ext V w1:=hU1.undrew
         have hE2:Ext V w2:=((hU1.alloc _).trans hU2).undrew
         obtain⟨s4,hs4⟩:=store3 t4 (.slice B1 m1 e1) (.slice B2 m2 e2) (.slice none 0 0)
         exact⟨_,_,_,_,_,_,_,rfl,s4,((hV1.ext ((Upd.refl _ _).alloc _)).ext hU2).store3 t4 rfl rfl rfl hs4,hV2.store3 t4 rfl rfl rfl hs4,hE1.size,New.up hf1 (Nat.le_refl _) (by have:=hU2.size;simp at this ⊢;omega),New.up hf2 (by have:=hE1.size;simp;omega) (by simp),Upd.fresh hs4 hE2 (fun k hk=>by have:k=w1.heap.size:=hk;rw[this];exact hE1.size)⟩
     · go_wp2_with fail
       refine⟨_,fun _ h=>h,⟨⟨_,((Upd.refl _ _).alloc _)⟩,rfl⟩,?_⟩
       repeat (refine tree_q rfl (fun K hK=>?_);go_simp;refine hK _ ?_;clear hK K)
       have t4:Three (V.drew.alloc (.cells #[.slice none 0 0,.slice none 0 0,.slice none 0 0] 43)) V.heap.size 43 (.slice none 0 0) (.slice none 0 0) (.slice none 0 0):=Three.new _ _ _ _ _
       have hU0:Ext V.drew (V.drew.alloc (.cells #[.slice none 0 0,.slice none 0 0,.slice none 0 0] 43)):=(Upd.refl _ _).alloc _
       refine tree_l rfl ?_
       go_wp2_with (refine(rsmall_fresh N _ hN.out).mono ?_;rintro e w1 ⟨B1,m1,e1,rfl,hf1,hV1,hU1⟩)
       refine⟨_,fun _ h=>h,⟨⟨_,(hU0.trans hU1)⟩,rfl⟩,?_⟩
       repeat (refine tree_q rfl (fun K hK=>?_);go_simp;refine hK _ ?_;clear hK K)
       refine tree_l rfl ?_
       go_wp2_with (refine(rsmall_fresh b _ hb.out).mono ?_;rintro e w2 ⟨B2,m2,e2,rfl,hf2,hV2,hU2⟩)
       refine⟨_,fun _ h=>h,⟨⟨_,((hU0.trans hU1).trans hU2)⟩,rfl⟩,?_⟩
       repeat (refine tree_q rfl (fun K hK=>?_);go_simp;refine hK _ ?_;clear hK K)
       replace t4:=(t4.ext hU1).ext hU2
       have q0:=t4.cell0
       have q1:=t4.cell1
       have q2:=t4.cell2
       have f0:=t4.frozen 0
       have f1:=t4.frozen 1
       have f2:=t4.frozen 2
       refine tree_done ?_
       try simp only[List.drop_succ_cons,List.drop_zero]
       go_wp2_with fail
       go_meet
       have hE2:Ext V w2:=((hU0.trans hU1).trans hU2).undrew
       obtain⟨s4,hs4⟩:=store3 t4 (.slice B1 m1 e1) (.slice B2 m2 e2) (.slice none 0 0)
       exact⟨_,_,_,_,_,_,_,rfl,s4,(hV1.ext hU2).store3 t4 rfl rfl rfl hs4,hV2.store3 t4 rfl rfl rfl hs4,Nat.le_refl _,New.up hf1 (by simp) (by have:=hU2.size;simp at this ⊢;omega),New.up hf2 (by have:=hU1.size;simp at this ⊢;omega) (by simp),Upd.fresh hs4 hE2 (fun k hk=>by have:k=V.heap.size:=hk;rw[this];exact Nat.le_refl _)⟩
    case rest=>
     obtain⟨g5,B1,m1,e1,B2,m2,e2,rfl,t5,hR1,hR2,hg5,hnB1,hnB2,hEc⟩:=hcut
     replace hV1:=hV1.ext hEc
     replace hV2:=hV2.ext hEc
     replace t4:=t4.ext hEc
     replace c1:=c1.ext hEc
     replace hE:=hE.trans hEc
     have hVB:V.heap.size≤wc.heap.size:=hEc.size
     have h4lt:=t4.lt
     have h5lt:=t5.lt
     have k2:=c1.cell2
     clear k0 k1 hEc
     by_cases h10:10<n
     · have h10I:(10:Int)<(n:Int):=by omega
       have hEf:=HE0.out.trans hE
       go_wp2_with fail
       go_ret
       exact⟨rfl,hEf⟩
     have h10I:¬(10:Int)<(n:Int):=by omega
     go_wp2_with fail
     clear k2
     obtain⟨Bi,hBi⟩:∃Bi,Bi=wc.heap.size:=⟨_,rfl⟩
     have hne45:g5≠g4:=fun e=>by
       have a:=t4
       have b:=t5
       rw[e]at b
       unfold Three at a b
       rw[a]at b
       injection b with b
       injection b with _ b
       exact absurd b (by decide)
     have hWk0:Wk wc Bi g4 g5 (.slice A1 l1 d1) (.slice A2 l2 d2) (.slice B1 m1 e1) (.slice B2 m2 e2) none none 0 0 0 0 [] [] (ps.take 0) (ps.take 0):=⟨t4,t5,⟨rfl,rfl⟩,⟨rfl,rfl⟩,Own.nil,Own.nil,rfl,rfl,rfl,rfl,fun i hi=>absurd hi (by omega),fun i hi=>absurd hi (by omega)⟩
     go_loopw [64] (fun i wr=>∃(j lD lF:Nat) (D:Option Addr) (cD:Nat) (F:Option Addr) (cF:Nat) (tb rb:List Tri),j≤n∧lD=j∧lF=j∧i=.int .i64 (j:Int)∧Wk wr Bi g4 g5 (.slice A1 l1 d1) (.slice A2 l2 d2) (.slice B1 m1 e1) (.slice B2 m2 e2) D F lD cD lF cF tb rb (ps.take j) (ps.take j)∧Upd (fun k=>k=g4∨k=g5) wc wr) (fun i _=>n - (intOf i).toNat)
     case atStart=>exact⟨0,0,0,none,0,none,0,[],[],Nat.zero_le _,rfl,rfl,rfl,hWk0,Upd.refl _ _⟩
     case round=>
      clear hWk0
      obtain⟨j,lD,lF,D,cD,F,cF,tb,rb,hj,hlD,hlF,rfl,hK,hUZ⟩:=hrel
      have hEr:Ext Z wr:=Upd.fresh hUZ hE (fun k hk=>by have:=hE.size;rcases hk with h | h<;>omega)
      have hBs0:Bi≤wr.heap.size:=by rw[hBi];exact hUZ.size
      have HK:=hide hK
      have HlD:=hide hlD
      have HlF:=hide hlF
      by_cases hji:j<n
      · have hjiI:(j:Int)<(n:Int):=by omega
        obtain⟨b1,o1,rfl, -,hcs⟩:=(HSp.out.ext hEr).open_ (by rw[Hn'.out];omega)
        have hcj:=hcs j (by rw[Hn'.out];exact hji)
        obtain⟨x,hx⟩:∃x,x=gat ps j:=⟨_,rfl⟩
        have hx64:=hps.out j (by rw[Hn'.out];exact hji)
        rw[←hx]at hcj hx64
        have Hx64:=hide hx64
        have hcj2:wr.cell? ⟨b1,o1+j,none⟩=some (.int .u64 (x:Int)):=hcj
        have htj:ps.take (j+1)=ps.take j++[x]:=by rw[List.take_succ_eq_append_getElem (by rw[Hn'.out];exact hji),hx,gat_lt (by rw[Hn'.out];exact hji)]
        have Htj:=hide htj
        have n4:¬inA D g4:=own_three hK.oD hK.t4 (by decide)
        have k4:=fun z:Wd (Upd (inA D) wr.drew)=>(z.ok.cell (p:=⟨g4,2,none⟩) hK.t4.drew.lt n4).trans hK.t4.drew.cell2
        clear hcs hcj hx hx64 htj hK hlD hlF
        go_wp2_with fail
        refine wp_region_plan (Upd (inA D) _) 7 [(false,0),(false,1),(false,2),(true,3),(true,4),(true,5),(false,6)] (by kernel_rfl) (by kernel_rfl) (Upd.refl _ _) (fun hne=>?_)
        repeat (refine head_q rfl (fun K hK=>?_);have hK2:=hide hK;clear hK;go_simp;refine hK2.out _ ?_;clear hK2 K)
        refine head_l rfl ?_
        go_wp2_with fail
        refine(new_fresh x _ Hx64.out).mono ?_
        rintro e w1 ⟨A6,l6,c6,rfl,hfr,hV6,hU6⟩
        go_wp2_with fail
        refine⟨_,fun _ h=>h,⟨⟨_,Upd.ofExt hU6⟩,rfl⟩,?_⟩
        repeat (refine head_q rfl (fun K hK=>?_);have hK2:=hide hK;clear hK;go_simp;refine hK2.out _ ?_;clear hK2 K)
        refine head_l rfl ?_
        go_wp2_with fail
        refine⟨_,fun _ h=>h,⟨⟨_,(Upd.ofExt hU6).alloc _⟩,rfl⟩,?_⟩
        repeat (refine head_q rfl (fun K hK=>?_);have hK2:=hide hK;clear hK;go_simp;refine hK2.out _ ?_;clear hK2 K)
        have hEw1:Ext wr (w1.alloc (.cells #[.slice A6 l6 c6] 33)):=(hU6.alloc _).undrew
        have hSx:Sl svt (w1.alloc (.cells #[.slice A6 l6 c6] 33)) (some ⟨w1.heap.size,0,none⟩) [((A6,l6,c6):Tri)]:=Sl.new svt w1 33 [((A6,l6,c6):Tri)]
        have hVx:NatV (w1.alloc (.cells #[.slice A6 l6 c6] 33)) (.agg #[.slice A6 l6 c6]) x:=hV6.ext ((Upd.refl _ _).alloc _)
        have hfx:∀k,inA A6 k→wr.heap.size≤k∧k<(w1.alloc (.cells #[.slice A6 l6 c6] 33)).heap.size:=fun k hk=>⟨(hfr k hk).1,by have:=(hfr k hk).2;simp;omega⟩
        have hUa:Upd (inA D) wr.drew (w1.alloc (.cells #[.slice A6 l6 c6] 33)):=(Upd.ofExt hU6).alloc _
        refine head_l rfl ?_
        refine name_l2 (fun Wa hWa=>?_)
        rw[←hWa]at hEw1 hSx hVx hfx hUa
        have HWa:=hide hWa
        clear hWa hV6 hU6 hfr
        refine wpList_apd svt svt_one Try.n_elN tb [((A6,l6,c6):Tri)] (tb++[((A6,l6,c6):Tri)]) (lD+1) rfl (by rw[List.length_append,HK.out.ltb];rfl) (by have:=HlD.out;omega) (by have:=HlD.out;unfold maxLen;omega) rfl rfl rfl HK.out.ltb (HK.out.oD.ext hEw1) rfl rfl hSx (Nat.le_trans hBs0 hEw1.size) ?_
        intro D2 f2 w3 hO3 hU3 hin3
        go_wp2_with fail
        refine⟨_,fun _ h=>h,⟨⟨_,hUa.trans hU3⟩,rfl⟩,?_⟩
        repeat (refine head_q rfl (fun K hK=>?_);have hK2:=hide hK;clear hK;go_simp;refine hK2.out _ ?_;clear hK2 K)
        have t4w:=(HK.out.t4.ext hEw1).upd hU3 n4
        have q2:=t4w.cell2
        have z2:=t4w.frozen 2
        obtain⟨hK2,hU2⟩:=HK.out.push4 hBs0 hEw1 hVx hfx hO3 hU3 hin3
        have HK2:=hide hK2
        have HU2:=hide hU2
        clear k4 hSx hVx hfx hUa hO3 hU3 hin3 hEw1 t4w hK2 hU2 HWa
        refine head_nil ?_
        try simp only[List.drop_succ_cons,List.drop_zero]
        go_wp2_with fail
        clear q2 z2
        refine name_w (fun S hS=>?_)
        have hK2:=HK2.out
        have hU2:=HU2.out
        rw[←hS]at hK2 hU2
        clear hS HK2 HU2
        have hU2Z:Upd (fun k=>k=g4∨k=g5) wc S:=hUZ.trans' hU2 (fun k hk h=>h.elim .inl (fun h=>by omega))
        have hBs:Bi≤S.heap.size:=Nat.le_trans hBs0 hU2.size
        have HK3:=hide hK2
        have n5:¬inA F g5:=own_three hK2.oF hK2.t5 (by decide)
        have k5:=fun z:Wd (Upd (inA F) S.drew)=>(z.ok.cell (p:=⟨g5,2,none⟩) hK2.t5.drew.lt n5).trans hK2.t5.drew.cell2
        clear hK2 hU2
        refine wp_region_plan (Upd (inA F) _) 7 [(false,0),(false,1),(false,2),(true,3),(true,4),(true,5),(false,6)] (by kernel_rfl) (by kernel_rfl) (Upd.refl _ _) (fun hne=>?_)
        repeat (refine head_q rfl (fun K hK=>?_);have hK2:=hide hK;clear hK;go_simp;refine hK2.out _ ?_;clear hK2 K)
        refine head_l rfl ?_
        go_wp2_with fail
        refine(rsmall_fresh x _ Hx64.out).mono ?_
        rintro e w4 ⟨A7,l7,c7,rfl,hfr,hV7,hU7⟩
        go_wp2_with fail
        refine⟨_,fun _ h=>h,⟨⟨_,Upd.ofExt hU7⟩,rfl⟩,?_⟩
        repeat (refine head_q rfl (fun K hK=>?_);have hK2:=hide hK;clear hK;go_simp;refine hK2.out _ ?_;clear hK2 K)
        refine head_l rfl ?_
        go_wp2_with fail
        refine⟨_,fun _ h=>h,⟨⟨_,(Upd.ofExt hU7).alloc _⟩,rfl⟩,?_⟩
        repeat (refine head_q rfl (fun K hK=>?_);have hK2:=hide hK;clear hK;go_simp;refine hK2.out _ ?_;clear hK2 K)
        have hEw1:Ext S (w4.alloc (.cells #[.slice A7 l7 c7] 39)):=(hU7.alloc _).undrew
        have hSx:Sl svt (w4.alloc (.cells #[.slice A7 l7 c7] 39)) (some ⟨w4.heap.size,0,none⟩) [((A7,l7,c7):Tri)]:=Sl.new svt w4 39 [((A7,l7,c7):Tri)]
        have hVx:RefV (w4.alloc (.cells #[.slice A7 l7 c7] 39)) (.slice A7 l7 c7) x:=hV7.ext ((Upd.refl _ _).alloc _)
        have hfx:∀k,inA A7 k→S.heap.size≤k∧k<(w4.alloc (.cells #[.slice A7 l7 c7] 39)).heap.size:=fun k hk=>⟨(hfr k hk).1,by have:=(hfr k hk).2;simp;omega⟩
        have hUa:Upd (inA F) S.drew (w4.alloc (.cells #[.slice A7 l7 c7] 39)):=(Upd.ofExt hU7).alloc _
        refine head_l rfl ?_
        refine name_l2 (fun Wa hWa=>?_)
        rw[←hWa]at hEw1 hSx hVx hfx hUa
        have HWa:=hide hWa
        clear hWa hV7 hU7 hfr
        refine wpList_apd svt svt_one Try.n_elR rb [((A7,l7,c7):Tri)] (rb++[((A7,l7,c7):Tri)]) (lF+1) rfl (by rw[List.length_append,HK3.out.lrb];rfl) (by have:=HlF.out;omega) (by have:=HlF.out;unfold maxLen;omega) rfl rfl rfl HK3.out.lrb (HK3.out.oF.ext hEw1) rfl rfl hSx (Nat.le_trans hBs hEw1.size) ?_
        intro F2 f3 w5 hO3 hU3 hin3
        go_wp2_with fail
        refine⟨_,fun _ h=>h,⟨⟨_,hUa.trans hU3⟩,rfl⟩,?_⟩
        repeat (refine head_q rfl (fun K hK=>?_);have hK2:=hide hK;clear hK;go_simp;refine hK2.out _ ?_;clear hK2 K)
        have t5w:=(HK3.out.t5.ext hEw1).upd hU3 n5
        have q2:=t5w.cell2
        have z2:=t5w.frozen 2
        obtain⟨hK4,hU4⟩:=HK3.out.push5 hBs hEw1 hVx hfx hO3 hU3 hin3
        have hU4Z:Upd (fun k=>k=g4∨k=g5) wc _:=hU2Z.trans' hU4 (fun k hk h=>h.elim .inr (fun h=>by omega))
        have HK4:=hide hK4
        have HU4:=hide hU4Z
        clear k5 hSx hVx hfx hUa hO3 hU3 hin3 hEw1 t5w hK4 hU4 hU4Z HWa hUZ hU2Z
        refine head_nil ?_
        try simp only[List.drop_succ_cons,List.drop_zero]
        go_wp2_with fail
        go_roundw
        case rel=>exact⟨j+1,lD+1,lF+1,D2,f2,F2,f3,_,_,hji,by have:=HlD.out;omega,by have:=HlF.out;omega,by go_num,by rw[Htj.out];exact HK4.out,HU4.out⟩
        case measure=>simp[intOf];omega
      · obtain rfl:n=j:=by omega
        have hjiI:¬(n:Int)<(n:Int):=by omega
        have htj:ps.take n=ps:=List.take_of_length_le (by rw[Hn'.out];exact Nat.le_refl _)
        have hK:=HK.out
        rw[htj]at hK
        obtain rfl:n=lD:=hlD.symm
        obtain rfl:n=lF:=hlF.symm
        have hUr:=hUZ.size
        have x10:=hV1.changew hUZ (fun b hb=>by
          rcases hb with rfl | rfl
          · exact t4.zw rfl rfl rfl
          · exact t5.zw rfl rfl rfl)
        have x20:=hV2.changew hUZ (fun b hb=>by
          rcases hb with rfl | rfl
          · exact t4.zw rfl rfl rfl
          · exact t5.zw rfl rfl rfl)
        have y10:=hR1.changew hUZ (fun b hb=>by
          rcases hb with rfl | rfl
          · exact t4.zw rfl rfl rfl
          · exact t5.zw rfl rfl rfl)
        have y20:=hR2.changew hUZ (fun b hb=>by
          rcases hb with rfl | rfl
          · exact t4.zw rfl rfl rfl
          · exact t5.zw rfl rfl rfl)
        have hst:=hK.steps (lo:=Z.heap.size) (by omega) x10 x20 y10 y20 (fun k hk=>by have:=hnA1 k hk;omega) (fun k hk=>by have:=hnA2 k hk;omega) (fun k hk=>by have:=hnB1 k hk;omega) (fun k hk=>by have:=hnB2 k hk;omega)
        have hd:Ext wr wr.drew:=(Upd.refl _ _).drew
        have s4:=hK.t4
        have s5:=hK.t5
        have hoff:∀k,(Z.heap.size≤k∧k<wr.heap.size)→Rf wr.drew Do Fo k:=fun k hk=>⟨hk.2,fun h=>by have:=(HKo.out.oD.in_ h).2;omega,fun h=>by have:=(HKo.out.oF.in_ h).2;omega⟩
        have HKX:=hide ((HKo.out.ext hEr).ext hd)
        have HSX:=hide (hst.1.apart hd (fun _ _ h=>h) hoff)
        have HTX:=hide (hst.2.apart hd (fun _ _ h=>h) hoff)
        have hwX:Ext w wr.drew:=(HE0.out.trans hEr).trans hd
        have hBX:Bz≤wr.drew.heap.size:=by rw[hBz];exact hwX.size
        have hx10:(gat cl jo).n≤10:=by have h1:=HXn.out;omega
        have Hx10:=hide hx10
        have n4:¬(inA Do g4∨inA Fo g4):=fun h=>h.elim (fun h=>by have:=(HKo.out.oD.in_ h).2;omega) (fun h=>by have:=(HKo.out.oF.in_ h).2;omega)
        have n5:¬(inA Do g5∨inA Fo g5):=fun h=>h.elim (fun h=>by have:=(HKo.out.oD.in_ h).2;omega) (fun h=>by have:=(HKo.out.oF.in_ h).2;omega)
        have p0:=fun z:Wd (Upd (fun k=>inA Do k∨inA Fo k) wr.drew)=>(z.ok.cell (p:=⟨g4,0,none⟩) s4.drew.lt n4).trans s4.drew.cell0
        have p1:=fun z:Wd (Upd (fun k=>inA Do k∨inA Fo k) wr.drew)=>(z.ok.cell (p:=⟨g4,1,none⟩) s4.drew.lt n4).trans s4.drew.cell1
        have p2:=fun z:Wd (Upd (fun k=>inA Do k∨inA Fo k) wr.drew)=>(z.ok.cell (p:=⟨g4,2,none⟩) s4.drew.lt n4).trans s4.drew.cell2
        have r0:=fun z:Wd (Upd (fun k=>inA Do k∨inA Fo k) wr.drew)=>(z.ok.cell (p:=⟨g5,0,none⟩) s5.drew.lt n5).trans s5.drew.cell0
        have r1:=fun z:Wd (Upd (fun k=>inA Do k∨inA Fo k) wr.drew)=>(z.ok.cell (p:=⟨g5,1,none⟩) s5.drew.lt n5).trans s5.drew.cell1
        have r2:=fun z:Wd (Upd (fun k=>inA Do k∨inA Fo k) wr.drew)=>(z.ok.cell (p:=⟨g5,2,none⟩) s5.drew.lt n5).trans s5.drew.cell2
        have hza:wr.drew.heap.size=wr.heap.size:=rfl
        clear hK HK hst hx10 hoff htj x10 x20 y10 y20 hV1 hV2 hR1 hR2 t4 t5 hUZ s4 s5 HKo hnA1 hnA2 hnB1 hnB2 c1
        go_wp2_with fail
        refine wp_region_tree (Upd (fun k=>inA Do k∨inA Fo k) _) 9 (.q 0 (.q 1 (.q 4 (.q 5 (.two 2 6 (.two 3 6 (.l 6 (.l 7 (.q 8 .done))) (.l 3 (.l 7 (.q 8 .done)))) (.l 2 (.l 3 (.l 7 (.q 8 .done))))))))) (by kernel_rfl) (by kernel_rfl) (Upd.refl _ _) (fun hne=>?_)
        repeat (refine tree_q rfl (fun K hK=>?_);go_simp;refine hK _ ?_;clear hK K)
        refine tree_two rfl rfl ?_ ?_
        · go_wp2_with fail
          refine⟨_,fun _ h=>h,⟨⟨_,((Upd.refl _ _).alloc _)⟩,rfl⟩,?_⟩
          repeat (refine tree_q rfl (fun K hK=>?_);go_simp;refine hK _ ?_;clear hK K)
          refine tree_two rfl rfl ?_ ?_
          · skip
            refine wpList_apk Try.n_elS (flat3 ms) (v3 ((A1,l1,d1),(A2,l2,d2),(D,n,cD))) rfl (v3_one _) rfl rfl rfl (HKX.out.oD.ext (((Upd.refl (fun _=>False) _).alloc _))) rfl (Three.news (m:=((A1,l1,d1),(A2,l2,d2),(D,n,cD))) (Three.new_at (w:=wr.drew) (g:=wr.heap.size) (t:=37) (a:=.slice A1 l1 d1) (b:=.slice A2 l2 d2) (c:=.slice D n cD) rfl)) (by have:=Hla.out;unfold maxLen;omega) (by have:=Hla.out;omega) (Nat.le_trans hBX (((Upd.refl (fun _=>False) _).alloc _)).size) ?_
            intro D2 c2 w2 hO2 hU2 hin2
            obtain⟨hKA,hSA⟩:=Ck.apA (s:=⟨N,b,ps⟩) (t:=⟨N,b,ps⟩) HKX.out HSX.out HTX.out (((Upd.refl (fun _=>False) _).alloc _)) hO2 hU2 hin2
            have hUA:Upd (fun k=>inA Do k∨inA Fo k) wr.drew w2:=(Upd.ofExt (((Upd.refl (fun _=>False) _).alloc _))).trans (hU2.mono (fun _ _ h=>.inl h))
            have hEA:Ext w w2:=Upd.fresh hU2 (hwX.trans (((Upd.refl (fun _=>False) _).alloc _))) (fun k hk=>by have:=(HKX.out.oD.in_ hk).1;omega)
            have hBA:Bz≤w2.heap.size:=by rw[hBz];exact hEA.size
            go_wp2_with fail
            refine⟨_,fun _ h=>h,⟨⟨_,hUA⟩,rfl⟩,?_⟩
            repeat (refine tree_q rfl (fun K hK=>?_);go_simp;refine hK _ ?_;clear hK K)
            refine tree_l rfl ?_
            go_wp2_with fail
            refine⟨_,fun _ h=>h,⟨⟨_,(hUA.alloc _)⟩,rfl⟩,?_⟩
            repeat (refine tree_q rfl (fun K hK=>?_);go_simp;refine hK _ ?_;clear hK K)
            refine tree_l rfl ?_
            refine wpList_apk Try.n_elT (flat3 rs) (v3 ((B1,m1,e1),(B2,m2,e2),(F,n,cF))) rfl (v3_one _) rfl rfl rfl (hKA.oF.ext (((Upd.refl (fun _=>False) _).alloc _))) rfl (Three.news (m:=((B1,m1,e1),(B2,m2,e2),(F,n,cF))) (Three.new_at rfl)) (by have:=Hlb.out;unfold maxLen;omega) (by have:=Hlb.out;omega) (Nat.le_trans hBA ((Upd.refl (fun _=>False) _).alloc _).size) ?_
            intro F2 c3 w3 hO3 hU3 hin3
            have hKB:=Ck.apB (t:=⟨N,b,ps⟩) hKA hSA (((Upd.refl (fun _=>False) _).alloc _)) hO3 hU3 hin3
            have hUB:Upd (fun k=>inA Do k∨inA Fo k) wr.drew w3:=((hUA.alloc _)).trans (hU3.mono (fun _ _ h=>.inr h))
            have hEB:Ext w w3:=Upd.fresh hU3 (hEA.trans (((Upd.refl (fun _=>False) _).alloc _))) (fun k hk=>by have:=(hKA.oF.in_ hk).1;omega)
            have HKB:=hide hKB
            clear hKB hKA hSA hUA hO2 hU2 hin2 hO3 hU3 hin3
            go_wp2_with fail
            refine⟨_,fun _ h=>h,⟨⟨_,hUB⟩,rfl⟩,?_⟩
            repeat (refine tree_q rfl (fun K hK=>?_);go_simp;refine hK _ ?_;clear hK K)
            refine tree_done ?_
            try simp only[List.drop_succ_cons,List.drop_zero]
            go_wp2_with fail
            go_roundw
            case rel=>exact⟨jo+1,la+1,lb+1,D2,c2,F2,c3,_,_,hlt,by have:=Hla.out;omega,by have:=Hlb.out;omega,rfl,rfl,by go_num,by rw[Htk.out];exact HKB.out,hEB,hide (fun i hi=>by
              rcases Nat.lt_or_ge i jo with h | h
              · exact H10.out i h
              · obtain rfl:i=jo:=by omega
                exact Hx10.out)⟩
            case measure=>simp[intOf];omega
          · go_wp2_with fail
            refine⟨_,fun _ h=>h,⟨⟨_,(((Upd.refl _ _).alloc _).alloc _)⟩,rfl⟩,?_⟩
            repeat (refine tree_q rfl (fun K hK=>?_);go_simp;refine hK _ ?_;clear hK K)
            refine tree_l rfl ?_
            refine wpList_apk Try.n_elS (flat3 ms) (v3 ((A1,l1,d1),(A2,l2,d2),(D,n,cD))) rfl (v3_one _) rfl rfl rfl (HKX.out.oD.ext ((((Upd.refl (fun _=>False) _).alloc _).alloc _))) rfl (Three.news (m:=((A1,l1,d1),(A2,l2,d2),(D,n,cD))) ((Three.new_at (w:=wr.drew) (g:=wr.heap.size) (t:=37) (a:=.slice A1 l1 d1) (b:=.slice A2 l2 d2) (c:=.slice D n cD) rfl).alloc _)) (by have:=Hla.out;unfold maxLen;omega) (by have:=Hla.out;omega) (Nat.le_trans hBX ((((Upd.refl (fun _=>False) _).alloc _).alloc _)).size) ?_
            intro D2 c2 w2 hO2 hU2 hin2
            obtain⟨hKA,hSA⟩:=Ck.apA (s:=⟨N,b,ps⟩) (t:=⟨N,b,ps⟩) HKX.out HSX.out HTX.out ((((Upd.refl (fun _=>False) _).alloc _).alloc _)) hO2 hU2 hin2
            have hUA:Upd (fun k=>inA Do k∨inA Fo k) wr.drew w2:=(Upd.ofExt ((((Upd.refl (fun _=>False) _).alloc _).alloc _))).trans (hU2.mono (fun _ _ h=>.inl h))
            have hEA:Ext w w2:=Upd.fresh hU2 (hwX.trans ((((Upd.refl (fun _=>False) _).alloc _).alloc _))) (fun k hk=>by have:=(HKX.out.oD.in_ hk).1;omega)
            have hBA:Bz≤w2.heap.size:=by rw[hBz];exact hEA.size
            go_wp2_with fail
            refine⟨_,fun _ h=>h,⟨⟨_,hUA⟩,rfl⟩,?_⟩
            repeat (refine tree_q rfl (fun K hK=>?_);go_simp;refine hK _ ?_;clear hK K)
            refine tree_l rfl ?_
            refine wpList_apk Try.n_elT (flat3 rs) (v3 ((B1,m1,e1),(B2,m2,e2),(F,n,cF))) rfl (v3_one _) rfl rfl rfl (hKA.oF.ext ((Upd.refl (fun _=>False) _))) rfl (Three.news (m:=((B1,m1,e1),(B2,m2,e2),(F,n,cF))) ((Three.new_at (w:=wr.drew.alloc (.cells #[.slice A1 l1 d1,.slice A2 l2 d2,.slice D n cD] 37)) (g:=wr.heap.size+1) (t:=43) (a:=.slice B1 m1 e1) (b:=.slice B2 m2 e2) (c:=.slice F n cF) (by simp)).upd hU2 (fun h=>by have:=(HKX.out.oD.in_ h).2;omega))) (by have:=Hlb.out;unfold maxLen;omega) (by have:=Hlb.out;omega) (hBA) ?_
            intro F2 c3 w3 hO3 hU3 hin3
            have hKB:=Ck.apB (t:=⟨N,b,ps⟩) hKA hSA ((Upd.refl (fun _=>False) _)) hO3 hU3 hin3
            have hUB:Upd (fun k=>inA Do k∨inA Fo k) wr.drew w3:=(hUA).trans (hU3.mono (fun _ _ h=>.inr h))
            have hEB:Ext w w3:=Upd.fresh hU3 (hEA.trans ((Upd.refl (fun _=>False) _))) (fun k hk=>by have:=(hKA.oF.in_ hk).1;omega)
            have HKB:=hide hKB
            clear hKB hKA hSA hUA hO2 hU2 hin2 hO3 hU3 hin3
            go_wp2_with fail
            refine⟨_,fun _ h=>h,⟨⟨_,hUB⟩,rfl⟩,?_⟩
            repeat (refine tree_q rfl (fun K hK=>?_);go_simp;refine hK _ ?_;clear hK K)
            refine tree_done ?_
            try simp only[List.drop_succ_cons,List.drop_zero]
            go_wp2_with fail
            go_roundw
            case rel=>exact⟨jo+1,la+1,lb+1,D2,c2,F2,c3,_,_,hlt,by have:=Hla.out;omega,by have:=Hlb.out;omega,rfl,rfl,by go_num,by rw[Htk.out];exact HKB.out,hEB,hide (fun i hi=>by
              rcases Nat.lt_or_ge i jo with h | h
              · exact H10.out i h
              · obtain rfl:i=jo:=by omega
                exact Hx10.out)⟩
            case measure=>simp[intOf];omega
        · go_wp2_with fail
          refine⟨_,fun _ h=>h,⟨⟨_,((Upd.refl _ _).alloc _)⟩,rfl⟩,?_⟩
          repeat (refine tree_q rfl (fun K hK=>?_);go_simp;refine hK _ ?_;clear hK K)
          refine tree_l rfl ?_
          go_wp2_with fail
          refine⟨_,fun _ h=>h,⟨⟨_,(((Upd.refl _ _).alloc _).alloc _)⟩,rfl⟩,?_⟩
          repeat (refine tree_q rfl (fun K hK=>?_);go_simp;refine hK _ ?_;clear hK K)
          refine tree_l rfl ?_
          refine wpList_apk Try.n_elS (flat3 ms) (v3 ((A1,l1,d1),(A2,l2,d2),(D,n,cD))) rfl (v3_one _) rfl rfl rfl (HKX.out.oD.ext ((((Upd.refl (fun _=>False) _).alloc _).alloc _))) rfl (Three.news (m:=((A1,l1,d1),(A2,l2,d2),(D,n,cD))) (Three.new_at (w:=wr.drew.alloc (.cells #[.slice B1 m1 e1,.slice B2 m2 e2,.slice F n cF] 43)) (g:=wr.heap.size+1) (t:=37) (a:=.slice A1 l1 d1) (b:=.slice A2 l2 d2) (c:=.slice D n cD) (by simp))) (by have:=Hla.out;unfold maxLen;omega) (by have:=Hla.out;omega) (Nat.le_trans hBX ((((Upd.refl (fun _=>False) _).alloc _).alloc _)).size) ?_
          intro D2 c2 w2 hO2 hU2 hin2
          obtain⟨hKA,hSA⟩:=Ck.apA (s:=⟨N,b,ps⟩) (t:=⟨N,b,ps⟩) HKX.out HSX.out HTX.out ((((Upd.refl (fun _=>False) _).alloc _).alloc _)) hO2 hU2 hin2
          have hUA:Upd (fun k=>inA Do k∨inA Fo k) wr.drew w2:=(Upd.ofExt ((((Upd.refl (fun _=>False) _).alloc _).alloc _))).trans (hU2.mono (fun _ _ h=>.inl h))
          have hEA:Ext w w2:=Upd.fresh hU2 (hwX.trans ((((Upd.refl (fun _=>False) _).alloc _).alloc _))) (fun k hk=>by have:=(HKX.out.oD.in_ hk).1;omega)
          have hBA:Bz≤w2.heap.size:=by rw[hBz];exact hEA.size
          go_wp2_with fail
          refine⟨_,fun _ h=>h,⟨⟨_,hUA⟩,rfl⟩,?_⟩
          repeat (refine tree_q rfl (fun K hK=>?_);go_simp;refine hK _ ?_;clear hK K)
          refine tree_l rfl ?_
          refine wpList_apk Try.n_elT (flat3 rs) (v3 ((B1,m1,e1),(B2,m2,e2),(F,n,cF))) rfl (v3_one _) rfl rfl rfl (hKA.oF.ext ((Upd.refl (fun _=>False) _))) rfl (Three.news (m:=((B1,m1,e1),(B2,m2,e2),(F,n,cF))) (((Three.new_at (w:=wr.drew) (g:=wr.heap.size) (t:=43) (a:=.slice B1 m1 e1) (b:=.slice B2 m2 e2) (c:=.slice F n cF) rfl).alloc (.cells #[.slice A1 l1 d1,.slice A2 l2 d2,.slice D n cD] 37)).upd hU2 (fun h=>by have:=(HKX.out.oD.in_ h).2;omega))) (by have:=Hlb.out;unfold maxLen;omega) (by have:=Hlb.out;omega) (hBA) ?_
          intro F2 c3 w3 hO3 hU3 hin3
          have hKB:=Ck.apB (t:=⟨N,b,ps⟩) hKA hSA ((Upd.refl (fun _=>False) _)) hO3 hU3 hin3
          have hUB:Upd (fun k=>inA Do k∨inA Fo k) wr.drew w3:=(hUA).trans (hU3.mono (fun _ _ h=>.inr h))
          have hEB:Ext w w3:=Upd.fresh hU3 (hEA.trans ((Upd.refl (fun _=>False) _))) (fun k hk=>by have:=(hKA.oF.in_ hk).1;omega)
          have HKB:=hide hKB
          clear hKB hKA hSA hUA hO2 hU2 hin2 hO3 hU3 hin3
          go_wp2_with fail
          refine⟨_,fun _ h=>h,⟨⟨_,hUB⟩,rfl⟩,?_⟩
          repeat (refine tree_q rfl (fun K hK=>?_);go_simp;refine hK _ ?_;clear hK K)
          refine tree_done ?_
          try simp only[List.drop_succ_cons,List.drop_zero]
          go_wp2_with fail
          go_roundw
          case rel=>exact⟨jo+1,la+1,lb+1,D2,c2,F2,c3,_,_,hlt,by have:=Hla.out;omega,by have:=Hlb.out;omega,rfl,rfl,by go_num,by rw[Htk.out];exact HKB.out,hEB,hide (fun i hi=>by
            rcases Nat.lt_or_ge i jo with h | h
            · exact H10.out i h
            · obtain rfl:i=jo:=by omega
              exact Hx10.out)⟩
          case measure=>simp[intOf];omega
end Go.Proofs.Ytbhhjfhepkbfgaa
