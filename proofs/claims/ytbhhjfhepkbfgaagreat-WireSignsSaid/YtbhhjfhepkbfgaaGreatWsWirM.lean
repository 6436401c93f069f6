/- An entry and the document's, out of bytes: of, walked. -/
import Derived.Test.YtbhhjfhepkbfgaaGreatWsWirO
namespace Go.Proofs.YtbhhjfhepkbfgaaGreat
set_option linter.unusedSimpArgs false
set_option linter.unusedVariables false
open Go.RowKit
open Nt Sha
attribute [local go_sem] steady steadyUpon Cls same_cell
attribute [local irreducible] wpHead wpTree
theorem Tryz.w_elN :ElemI Tryz.prog 36 39 (.agg #[.slice none 0 0]) 24:=⟨by kernel_rfl,by kernel_rfl,rfl⟩
theorem Tryz.w_elR :ElemI Tryz.prog 49 32 (.slice none 0 0) 24:=⟨by kernel_rfl,by kernel_rfl,rfl⟩
theorem Upd.wredrew {T:Nat→Prop} {w w':World} (h:Upd T w w'):Upd T w.drew w':=⟨h.os,h.tape,h.output,h.size,h.block⟩
theorem svt_one' (t:Tri):(svt t).oneCell'=true:=rfl
theorem name_l2' {P:Program} {ops:Array Oper} {l:List Oper} {Q:Exit→Act→World→Prop} {a:Act} {W:World} (h:∀W',W'=W→wpList P ops Q l a W'):wpList P ops Q l a W:=h W rfl
theorem store9e {w:World} {g:Nat} {t:TypeId} {cs:Array Value} (h:Blk w g t cs) (hs:cs.size=9) (a b c d e f i j k:Value):∃w',w'=(((((((((w.setCell ⟨g,0,none⟩ a).setCell ⟨g,1,none⟩ b).setCell ⟨g,2,none⟩ c).setCell ⟨g,3,none⟩ d).setCell ⟨g,4,none⟩ e).setCell ⟨g,5,none⟩ f).setCell ⟨g,6,none⟩ i).setCell ⟨g,7,none⟩ j).setCell ⟨g,8,none⟩ k)∧Blk w' g t #[a,b,c,d,e,f,i,j,k]∧Upd (Go.Proofs.YtbhhjfhepkbfgaaGreat.only g) w w':=
 ⟨_,rfl,setAll_all [a,b,c,d,e,f,i,j,k] h hs rfl⟩
def qnums (qs:List Pt):List Nat:=qs.map fun p=>ofB (p.bs.take 48)
theorem Wq.ret {w w1 w2:World} {B g4 g5 a b:Nat} {x:Pl} {D F:Option Addr} {lD cD lF cF:Nat} {tb rb:List Tri} {ps qs:List Nat} (h:Wq w B g4 g5 x D F lD cD lF cF tb rb ps qs) (h1:Upd (only a) w w1) (h2:Upd (only b) w1 w2) (ha:a<B) (hb:b<B):NatL w2 D ps∧RefL w2 F qs:=by
 have n:∀{k g:Nat},B≤k→g<B→¬only g k:=fun hk hg e=>by have:_=_:=e;omega
 refine⟨⟨tb,h.ltb.trans h.lps.symm,((h.oD.upd h1 (fun k hk=>n (h.oD.in_ hk).1 ha)).upd h2 (fun k hk=>n (h.oD.in_ hk).1 hb)).sl,fun i hi=>?_⟩,⟨rb,h.lrb.trans h.lqs.symm,((h.oF.upd h1 (fun k hk=>n (h.oF.in_ hk).1 ha)).upd h2 (fun k hk=>n (h.oF.in_ hk).1 hb)).sl,fun i hi=>?_⟩⟩
 · obtain⟨q1,q2,q3⟩:=h.nt i (by rw[←h.lps];exact hi)
   exact(NatV.apartL q1 h1 (fun h0 k hk=>n (q2 h0 k hk).1.1 ha)).apartL h2 (fun h0 k hk=>n (q2 h0 k hk).1.1 hb)
 · obtain⟨q1,q2,q3⟩:=h.rt i (by rw[←h.lqs];exact hi)
   exact(RefV.apartL q1 h1 (fun h0 k hk=>n (q2 h0 k hk).1.1 ha)).apartL h2 (fun h0 k hk=>n (q2 h0 k hk).1.1 hb)
def RetOf (w:World) (x:Pl) (e:Ending) (w':World):Prop:=
 ∃D cD F cF,e=.returned (.tuple #[.agg (ecs x (.slice D x.ln cD)),.agg (ecs x (.slice F x.ln cF))])∧Ext w w'∧NatL w' D (qnums x.qs)∧RefL w' F (qnums x.qs)
set_option maxRecDepth 100000 in
set_option maxHeartbeats 8000000 in
theorem wof_any (x:Pl) (w:World) (hx:PlOk w x) (h100:x.ln≤100):Calls Tryz.prog 13 #[.agg x.cs] w (RetOf w x):=by
 have HX:=hide hx
 clear hx
 unfold Pl.cs
 go_enter Tryz.func13,Tryz.ntmps13
 go_upto_region 1 with fail
 refine name_w (fun W hW=>?_)
 have b1:Blk W w.heap.size 26 x.cs:=by rw[hW];exact((Blk.new _ _ _).ext ((Upd.refl _ _).alloc _)).ext ((Upd.refl _ _).alloc _)
 have b2:Blk W (w.heap.size+1) 48 #[.int .i64 0,.int .i64 0,.int .i64 0,.int .i64 0,.int .i64 0,.int .i64 0,.slice none 0 0,.slice none 0 0,.slice none 0 0]:=by rw[hW];exact(Blk.new_at (by simp)).ext ((Upd.refl _ _).alloc _)
 have b3:Blk W (w.heap.size+1+1) 51 #[.int .i64 0,.int .i64 0,.int .i64 0,.int .i64 0,.int .i64 0,.int .i64 0,.slice none 0 0,.slice none 0 0,.slice none 0 0]:=by rw[hW];exact Blk.new_at (by simp)
 have hE:Ext w W:=by rw[hW];exact(((Upd.refl _ _).alloc _).alloc _).alloc _
 have HWs:Hid (W.heap.size=w.heap.size+1+1+1):=hide (by rw[hW];simp)
 clear hW
 have q0:W.cell? ⟨w.heap.size,0,none⟩=some (.int .i64 x.K):=b1.at 0 rfl
 have q1:W.cell? ⟨w.heap.size,1,none⟩=some (.int .i64 x.au):=b1.at 1 rfl
 have q2:W.cell? ⟨w.heap.size,2,none⟩=some (.int .i64 x.ep):=b1.at 2 rfl
 have q3:W.cell? ⟨w.heap.size,3,none⟩=some (.int .i64 x.mode):=b1.at 3 rfl
 have q4:W.cell? ⟨w.heap.size,4,none⟩=some (.int .i64 x.peer):=b1.at 4 rfl
 have q5:W.cell? ⟨w.heap.size,5,none⟩=some (.int .i64 x.phase):=b1.at 5 rfl
 have q7:W.cell? ⟨w.heap.size,7,none⟩=some (.slice x.L2 x.lt x.c2):=b1.at 7 rfl
 have q8:W.cell? ⟨w.heap.size,8,none⟩=some (.slice x.P x.lp x.c3):=b1.at 8 rfl
 go_upto_region 2 with fail
 refine name_w (fun W2 hW2=>?_)
 have c4:Blk W2 W.heap.size 48 (ecs x (.slice none 0 0)):=by rw[hW2];exact Blk.new _ _ _
 have hE2:Ext W W2:=by rw[hW2];exact(Upd.refl _ _).alloc _
 have HW2s:Hid (W2.heap.size=W.heap.size+1):=hide (by rw[hW2];simp)
 clear hW2
 replace q0:=hE2.cellv q0
 replace q1:=hE2.cellv q1
 replace q2:=hE2.cellv q2
 replace q3:=hE2.cellv q3
 replace q4:=hE2.cellv q4
 replace q5:=hE2.cellv q5
 replace q7:=hE2.cellv q7
 replace q8:=hE2.cellv q8
 go_upto_region 3 with fail
 refine name_w (fun W3 hW3=>?_)
 have c5:Blk W3 W2.heap.size 51 (ecs x (.slice none 0 0)):=by rw[hW3];exact Blk.new _ _ _
 have hE3:Ext W2 W3:=by rw[hW3];exact(Upd.refl _ _).alloc _
 have HW3s:Hid (W3.heap.size=W2.heap.size+1):=hide (by rw[hW3];simp)
 clear hW3 q0 q1 q2 q3 q4 q5 q7 q8
 have d1:=(b1.ext hE2).ext hE3
 have d2:=(b2.ext hE2).ext hE3
 have d3:=(b3.ext hE2).ext hE3
 have d4:=c4.ext hE3
 have hEw:=(hE.trans hE2).trans hE3
 have q6:W3.cell? ⟨w.heap.size,6,none⟩=some (.slice x.L1 x.ln x.c1):=d1.at 6 rfl
 clear b1 b2 b3 c4 hE2 hE3
 obtain⟨ns,hns⟩:∃ns,ns=qnums x.qs:=⟨_,rfl⟩
 have hnl:ns.length=x.ln:=by rw[hns];unfold qnums;rw[List.length_map];exact HX.out.nlen
 obtain⟨g4,hg4⟩:∃g,g=W.heap.size:=⟨_,rfl⟩
 obtain⟨g5,hg5⟩:∃g,g=W2.heap.size:=⟨_,rfl⟩
 obtain⟨Bz,hBz⟩:∃B,B=W.heap.size:=⟨_,rfl⟩
 have hB3:Bz≤W3.heap.size:=by have:=HW2s.out;have:=HW3s.out;omega
 have hBw:w.heap.size+1+1<Bz:=by have:=HWs.out;omega
 have h45:Bz≤g4∧Bz≤g5:=by have:=HW2s.out;omega
 rw[←hg4]at d4
 rw[←hg5]at c5
 rw[←hg4,←hg5]
 have hq0:Wq W3 Bz g4 g5 x none none 0 0 0 0 [] [] (ns.take 0) (ns.take 0):=⟨d4,c5,Own.nil,Own.nil,rfl,rfl,rfl,rfl,h45.1,h45.2,fun i hi=>absurd hi (by omega),fun i hi=>absurd hi (by omega)⟩
 have Hns:=hide hns
 have Hnl:=hide hnl
 have D1:=hide d1
 have D2:=hide d2
 have D3:=hide d3
 have HEw:=hide hEw
 clear hns hnl hg4 hg5 hBz HWs HW2s HW3s hE d1 d2 d3 d4 c5 hEw
 go_wp2_with fail
 go_loopw [46] (fun i wr=>∃(j lD lF:Nat) (D:Option Addr) (cD:Nat) (F:Option Addr) (cF:Nat) (tb rb:List Tri),j≤x.ln∧lD=j∧lF=j∧i=.int .i64 (j:Int)∧Wq wr Bz g4 g5 x D F lD cD lF cF tb rb (ns.take j) (ns.take j)∧Upd (fun k=>Bz≤k) W3 wr) (fun i _=>x.ln - (intOf i).toNat)
 case atStart=>exact⟨0,0,0,none,0,none,0,[],[],Nat.zero_le _,rfl,rfl,rfl,hq0,Upd.refl _ _⟩
 case round=>
  clear hq0 q6
  obtain⟨j,lD,lF,D,cD,F,cF,tb,rb,hj,hlD,hlF,rfl,hK,hUZ⟩:=hrel
  have hEr:Ext w wr:=Upd.fresh hUZ HEw.out (fun k hk=>by have:Bz≤k:=hk;omega)
  have hBr:Bz≤wr.heap.size:=Nat.le_trans hB3 hUZ.size
  have HK:=hide hK
  have HlD:=hide hlD
  have HlF:=hide hlF
  by_cases hlt:j<x.ln
  · have hltI:(j:Int)<(x.ln:Int):=by omega
    obtain⟨b,o,eL,_,hc⟩:=(HX.out.nums.1.ext hEr).open_ (by rw[HX.out.nlen];omega)
    have hck:=hc j (by rw[HX.out.nlen];exact hlt)
    have hpo:=HX.out.nums.2 j (by rw[HX.out.nlen];exact hlt)
    obtain⟨p,hp⟩:∃p,p=gat x.qs j:=⟨_,rfl⟩
    have hpn:gat ns j=ofB (p.bs.take 48):=by
     rw[Hns.out,hp]
     unfold qnums
     rw[gat_lt (by rw[List.length_map,HX.out.nlen];exact hlt),gat_lt (by rw[HX.out.nlen];exact hlt),List.getElem_map]
    rw[←hp]at hck hpo
    obtain⟨P,sz,cP,pbs⟩:=p
    replace hck:wr.cell? ⟨b,o+j,none⟩=some (.slice P sz cP):=hck
    obtain⟨hSp,hl3,hlc,hcm⟩:=hpo
    have hIn:In8 wr P sz cP pbs:=⟨hl3,hlc,hcm,hSp.ext hEr⟩
    have htk:ns.take (j+1)=ns.take j++[ofB (pbs.take 48)]:=by rw[List.take_succ_eq_append_getElem (by rw[Hnl.out];exact hlt),←gat_lt (by rw[Hnl.out];exact hlt),hpn]
    have Htk:=hide htk
    have HIn:=hide hIn
    clear hp hc hSp hl3 hlc hcm hpn htk hIn hK hlD hlF
    rw[eL]
    go_wp2_with fail
    clear hck
    refine(num_new P sz cP pbs wr HIn.out).mono ?_
    rintro e w1 ⟨A6,l6,c6,rfl,hV6,hU6,hn6⟩
    have hFv:Fit 12 (ofB (pbs.take 48)):=fit_48 pbs
    obtain⟨v,hv⟩:∃v,v=ofB (pbs.take 48):=⟨_,rfl⟩
    rw[←hv]at hV6 hFv
    have Htk:Hid (ns.take (j+1)=ns.take j++[v]):=hide (by rw[hv];exact Htk.out)
    have hK1:=(HK.out.ext hU6).t4.at 6 (v:=.slice D lD cD) rfl
    have HV6:=hide hV6
    have HU6:=hide hU6
    have Hn6:=hide hn6
    clear hv hV6 hU6 hn6
    go_upto_region 7 with fail
    refine name_w (fun S6 hS6=>?_)
    have hE6:Ext w1 S6:=by rw[hS6];exact(Upd.refl _ _).alloc _
    have b8:Box S6 w1.heap.size 39 (.slice A6 l6 c6):=by rw[hS6];exact Box.new _ _ _
    clear hS6
    have hE6w:Ext wr S6:=HU6.out.trans hE6
    have HKs:=hide (HK.out.ext hE6w)
    have hVs:NatV S6 (.agg #[.slice A6 l6 c6]) v:=HV6.out.ext hE6
    have k6:=HKs.out.t4.at 6 (v:=.slice D lD cD) rfl
    have k8:=b8.cell
    have z6:=HKs.out.t4.frozen 6
    clear hK1
    go_wp2_with (at_builtin;refine name_l2' (fun Wa hWa=>?_);have hEa:Ext S6 Wa:=(by rw[hWa];exact(Upd.refl _ _).alloc _);have hSa:Sl svt Wa (some ⟨S6.heap.size,0,none⟩) [((A6,l6,c6):Tri)]:=(by rw[hWa];exact Sl.new svt S6 39 [((A6,l6,c6):Tri)]);have HWa:=hide hWa;clear hWa;go_must (refine wpList_apd svt svt_one' Tryz.w_elN tb [((A6,l6,c6):Tri)] (tb++[((A6,l6,c6):Tri)]) (lD+1) rfl (by rw[List.length_append,HK.out.ltb];rfl) (by have:=HlD.out;omega) (by have:=HlD.out;unfold maxLen;omega) rfl rfl rfl HK.out.ltb (HKs.out.oD.ext hEa) rfl rfl hSa (by have:=hE6w.size;have:=hEa.size;omega) ?_);intro D2 f2 w3 hO3 hU3 hin3;have n4:=own_blk HKs.out.oD HKs.out.t4 (by decide);have y4:=((HKs.out.t4.ext hEa).upd hU3 n4).at 6 (v:=.slice D lD cD) rfl;have y5:=((HKs.out.t4.ext hEa).upd hU3 n4).frozen 6;obtain⟨hK2,hU2⟩:=HK.out.push4 hBr (hE6w.trans hEa) (hVs.ext hEa) (fun k hk=>Hn6.out k hk) hO3 hU3 hin3;have hB8:=(b8.ext hEa).upd hU3 (fun h=>by have:=(HK.out.oD.in_ h).2;have:=HU6.out.size;omega);have HK2:=hide hK2;have HU2:=hide hU2;clear hK2 hU2 hO3 hU3 hin3 hSa)
    clear k6 k8 z6 y4 y5
    go_upto_region 8 with fail
    refine name_w (fun S hS=>?_)
    have hK2:=HK2.out
    have hU2:=HU2.out
    have hg4:=HK.out.t4.lt
    have hsz6:wr.heap.size≤w1.heap.size:=HU6.out.size
    have b8S:Box S w1.heap.size 39 (.slice A6 l6 c6):=by rw[hS];exact hB8.far (p:=⟨g4,6,none⟩) (by simp;omega) _
    rw[←hS]at hK2 hU2
    clear hS HK2 HU2 hB8 b8 n4
    have hU2Z:Upd (fun k=>Bz≤k) W3 S:=hUZ.trans' hU2 (fun k _ h=>h)
    have hBs:Bz≤S.heap.size:=Nat.le_trans hBr hU2.size
    have hVS:NatV S (.agg #[.slice A6 l6 c6]) v:=by
     have:=(hK2.nt lD (by omega)).1
     rw[gat_app_r HK.out.ltb.symm,gat_app_r HK.out.lps.symm]at this
     exact this
    have nF8:¬inA F w1.heap.size:=fun h=>by have:=(HK.out.oF.in_ h).2;omega
    have HK3:=hide hK2
    have n5:¬inA F g5:=own_blk hK2.oF hK2.t5 (by decide)
    have k5:=fun z:Wd (Upd (inA F) S.drew)=>(z.ok.cell (p:=⟨g5,6,none⟩) hK2.t5.lt n5).trans (hK2.t5.at 6 (v:=.slice F lF cF) rfl)
    have k8:=fun z:Wd (Upd (inA F) S.drew)=>(z.ok.cell (p:=⟨w1.heap.size,0,none⟩) b8S.lt nF8).trans b8S.cell
    clear hK2 hU2 b8S
    refine wp_region_plan (Upd (inA F) _) 7 [(false,0),(false,1),(false,2),(true,3),(true,4),(true,5),(false,6)] (by kernel_rfl) (by kernel_rfl) (Upd.refl _ _) (fun hne=>?_)
    repeat (refine head_q rfl (fun K hK=>?_);have hK2:=hide hK;clear hK;go_simp;refine hK2.out _ ?_;clear hK2 K)
    refine head_l rfl ?_
    go_wp2_with fail
    refine(lnum_new _ v 12 _ (hVS.ext (Upd.refl _ _).drew) hFv (by omega)).mono ?_
    rintro e w4 ⟨A7,l7,c7,rfl,hV7,hU7,hn7⟩
    go_wp2_with fail
    refine⟨_,fun _ h=>h,⟨⟨_,Upd.ofExt hU7⟩,rfl⟩,?_⟩
    repeat (refine head_q rfl (fun K hK=>?_);have hK2:=hide hK;clear hK;go_simp;refine hK2.out _ ?_;clear hK2 K)
    refine head_l rfl ?_
    go_wp2_with fail
    refine⟨_,fun _ h=>h,⟨⟨_,(Upd.ofExt hU7).alloc _⟩,rfl⟩,?_⟩
    repeat (refine head_q rfl (fun K hK=>?_);have hK2:=hide hK;clear hK;go_simp;refine hK2.out _ ?_;clear hK2 K)
    have hEw1:Ext S (w4.alloc (.cells #[.slice A7 l7 c7] 32)):=(hU7.alloc _).undrew
    have hSx:Sl svt (w4.alloc (.cells #[.slice A7 l7 c7] 32)) (some ⟨w4.heap.size,0,none⟩) [((A7,l7,c7):Tri)]:=Sl.new svt w4 32 [((A7,l7,c7):Tri)]
    have hVx:RefV (w4.alloc (.cells #[.slice A7 l7 c7] 32)) (.slice A7 l7 c7) v:=hV7.ext ((Upd.refl _ _).alloc _)
    have hUa:Upd (inA F) S.drew (w4.alloc (.cells #[.slice A7 l7 c7] 32)):=(Upd.ofExt hU7).alloc _
    refine head_l rfl ?_
    refine name_l2' (fun Wa hWa=>?_)
    rw[←hWa]at hEw1 hSx hVx hUa
    have HWa:=hide hWa
    clear hWa hV7 hU7
    refine wpList_apd svt svt_one' Tryz.w_elR rb [((A7,l7,c7):Tri)] (rb++[((A7,l7,c7):Tri)]) (lF+1) rfl (by rw[List.length_append,HK3.out.lrb];rfl) (by have:=HlF.out;omega) (by have:=HlF.out;unfold maxLen;omega) rfl rfl rfl HK3.out.lrb (HK3.out.oF.ext hEw1) rfl rfl hSx (Nat.le_trans hBs hEw1.size) ?_
    intro F2 f3 w5 hO3 hU3 hin3
    go_wp2_with fail
    refine⟨_,fun _ h=>h,⟨⟨_,hUa.trans hU3⟩,rfl⟩,?_⟩
    repeat (refine head_q rfl (fun K hK=>?_);have hK2:=hide hK;clear hK;go_simp;refine hK2.out _ ?_;clear hK2 K)
    have t5w:=(HK3.out.t5.ext hEw1).upd hU3 n5
    have q2:=t5w.at 6 (v:=.slice F lF cF) rfl
    have z2:=t5w.frozen 6
    obtain⟨hK4,hU4⟩:=HK3.out.push5 hBs hEw1 hVx (fun k hk=>hn7 k hk) hO3 hU3 hin3
    have hU4Z:=hU2Z.trans' hU4 (fun k _ h=>h)
    have HK4:=hide hK4
    have HU4:=hide hU4Z
    clear k5 k8 hSx hVx hUa hO3 hU3 hin3 hEw1 t5w hK4 hU4 hU4Z HWa hUZ hU2Z hVs hVS
    refine head_nil ?_
    try simp only[List.drop_succ_cons,List.drop_zero]
    go_wp2_with fail
    go_roundw
    case rel=>exact⟨j+1,lD+1,lF+1,D2,f2,F2,f3,_,_,hlt,by have:=HlD.out;omega,by have:=HlF.out;omega,by go_num,by rw[Htk.out];exact HK4.out,HU4.out⟩
    case measure=>simp[intOf];omega
  · have hjn:j=x.ln:=by omega
    have hltI:¬(j:Int)<(x.ln:Int):=by omega
    have hK':Wq wr Bz g4 g5 x D F x.ln cD x.ln cF tb rb ns ns:=by
     have h:=HK.out
     rw[HlD.out,HlF.out,hjn,List.take_of_length_le (by rw[Hnl.out];exact Nat.le_refl _)]at h
     exact h
    have eD:lD=x.ln:=HlD.out.trans hjn
    have eF:lF=x.ln:=HlF.out.trans hjn
    have Hjn:=hide hjn
    clear HK HlD HlF hK hlt hj hjn
    subst eD eF
    have d2:=D2.out.upd hUZ (fun h=>by have:Bz≤w.heap.size+1:=h;omega)
    have d3:=D3.out.upd hUZ (fun h=>by have:Bz≤w.heap.size+1+1:=h;omega)
    have ne4:g4≠w.heap.size+1:=by omega
    have ne5:g5≠w.heap.size+1:=by omega
    have HK:=hide hK'
    have E2:=hide d2
    have E3:=hide d3
    have p0:=fun z:Wd (Upd (only (w.heap.size+1)) wr.drew)=>(z.ok.cell (p:=⟨g4,0,none⟩) hK'.t4.lt (fun h=>ne4 h)).trans (hK'.t4.at 0 (v:=.int .i64 x.K) rfl)
    have q0:=fun z:Wd (Upd (only (w.heap.size+1)) wr.drew)=>(z.ok.cell (p:=⟨g5,0,none⟩) hK'.t5.lt (fun h=>ne5 h)).trans (hK'.t5.at 0 (v:=.int .i64 x.K) rfl)
    have p1:=fun z:Wd (Upd (only (w.heap.size+1)) wr.drew)=>(z.ok.cell (p:=⟨g4,1,none⟩) hK'.t4.lt (fun h=>ne4 h)).trans (hK'.t4.at 1 (v:=.int .i64 x.au) rfl)
    have q1:=fun z:Wd (Upd (only (w.heap.size+1)) wr.drew)=>(z.ok.cell (p:=⟨g5,1,none⟩) hK'.t5.lt (fun h=>ne5 h)).trans (hK'.t5.at 1 (v:=.int .i64 x.au) rfl)
    have p2:=fun z:Wd (Upd (only (w.heap.size+1)) wr.drew)=>(z.ok.cell (p:=⟨g4,2,none⟩) hK'.t4.lt (fun h=>ne4 h)).trans (hK'.t4.at 2 (v:=.int .i64 x.ep) rfl)
    have q2:=fun z:Wd (Upd (only (w.heap.size+1)) wr.drew)=>(z.ok.cell (p:=⟨g5,2,none⟩) hK'.t5.lt (fun h=>ne5 h)).trans (hK'.t5.at 2 (v:=.int .i64 x.ep) rfl)
    have p3:=fun z:Wd (Upd (only (w.heap.size+1)) wr.drew)=>(z.ok.cell (p:=⟨g4,3,none⟩) hK'.t4.lt (fun h=>ne4 h)).trans (hK'.t4.at 3 (v:=.int .i64 x.mode) rfl)
    have q3:=fun z:Wd (Upd (only (w.heap.size+1)) wr.drew)=>(z.ok.cell (p:=⟨g5,3,none⟩) hK'.t5.lt (fun h=>ne5 h)).trans (hK'.t5.at 3 (v:=.int .i64 x.mode) rfl)
    have p4:=fun z:Wd (Upd (only (w.heap.size+1)) wr.drew)=>(z.ok.cell (p:=⟨g4,4,none⟩) hK'.t4.lt (fun h=>ne4 h)).trans (hK'.t4.at 4 (v:=.int .i64 x.peer) rfl)
    have q4:=fun z:Wd (Upd (only (w.heap.size+1)) wr.drew)=>(z.ok.cell (p:=⟨g5,4,none⟩) hK'.t5.lt (fun h=>ne5 h)).trans (hK'.t5.at 4 (v:=.int .i64 x.peer) rfl)
    have p5:=fun z:Wd (Upd (only (w.heap.size+1)) wr.drew)=>(z.ok.cell (p:=⟨g4,5,none⟩) hK'.t4.lt (fun h=>ne4 h)).trans (hK'.t4.at 5 (v:=.int .i64 x.phase) rfl)
    have q5:=fun z:Wd (Upd (only (w.heap.size+1)) wr.drew)=>(z.ok.cell (p:=⟨g5,5,none⟩) hK'.t5.lt (fun h=>ne5 h)).trans (hK'.t5.at 5 (v:=.int .i64 x.phase) rfl)
    have p6:=fun z:Wd (Upd (only (w.heap.size+1)) wr.drew)=>(z.ok.cell (p:=⟨g4,6,none⟩) hK'.t4.lt (fun h=>ne4 h)).trans (hK'.t4.at 6 (v:=.slice D x.ln cD) rfl)
    have q6:=fun z:Wd (Upd (only (w.heap.size+1)) wr.drew)=>(z.ok.cell (p:=⟨g5,6,none⟩) hK'.t5.lt (fun h=>ne5 h)).trans (hK'.t5.at 6 (v:=.slice F x.ln cF) rfl)
    have p7:=fun z:Wd (Upd (only (w.heap.size+1)) wr.drew)=>(z.ok.cell (p:=⟨g4,7,none⟩) hK'.t4.lt (fun h=>ne4 h)).trans (hK'.t4.at 7 (v:=.slice x.L2 x.lt x.c2) rfl)
    have q7:=fun z:Wd (Upd (only (w.heap.size+1)) wr.drew)=>(z.ok.cell (p:=⟨g5,7,none⟩) hK'.t5.lt (fun h=>ne5 h)).trans (hK'.t5.at 7 (v:=.slice x.L2 x.lt x.c2) rfl)
    have p8:=fun z:Wd (Upd (only (w.heap.size+1)) wr.drew)=>(z.ok.cell (p:=⟨g4,8,none⟩) hK'.t4.lt (fun h=>ne4 h)).trans (hK'.t4.at 8 (v:=.slice x.P x.lp x.c3) rfl)
    have q8:=fun z:Wd (Upd (only (w.heap.size+1)) wr.drew)=>(z.ok.cell (p:=⟨g5,8,none⟩) hK'.t5.lt (fun h=>ne5 h)).trans (hK'.t5.at 8 (v:=.slice x.P x.lp x.c3) rfl)
    clear hK' d2 d3
    go_wp2_with fail
    refine wp_region_plan (Upd (only (w.heap.size+1)) _) 3 [(false,0),(false,1),(true,2)] (by kernel_rfl) (by kernel_rfl) (Upd.refl _ _) (fun hne=>?_)
    repeat (refine head_q rfl (fun K hK=>?_);have hK2:=hide hK;clear hK;go_simp;refine hK2.out _ ?_;clear hK2 K)
    have a0:wr.drew.cell? ⟨w.heap.size+1,0,none⟩=some (.int .i64 0):=E2.out.at 0 rfl
    have a0':wr.cell? ⟨w.heap.size+1,0,none⟩=some (.int .i64 0):=E2.out.at 0 rfl
    have f0:wr.drew.frozen? ⟨w.heap.size+1,0,none⟩=false:=E2.out.frozen 0
    have f0':=E2.out.frozen 0
    have a1:wr.drew.cell? ⟨w.heap.size+1,1,none⟩=some (.int .i64 0):=E2.out.at 1 rfl
    have a1':wr.cell? ⟨w.heap.size+1,1,none⟩=some (.int .i64 0):=E2.out.at 1 rfl
    have f1:wr.drew.frozen? ⟨w.heap.size+1,1,none⟩=false:=E2.out.frozen 1
    have f1':=E2.out.frozen 1
    have a2:wr.drew.cell? ⟨w.heap.size+1,2,none⟩=some (.int .i64 0):=E2.out.at 2 rfl
    have a2':wr.cell? ⟨w.heap.size+1,2,none⟩=some (.int .i64 0):=E2.out.at 2 rfl
    have f2:wr.drew.frozen? ⟨w.heap.size+1,2,none⟩=false:=E2.out.frozen 2
    have f2':=E2.out.frozen 2
    have a3:wr.drew.cell? ⟨w.heap.size+1,3,none⟩=some (.int .i64 0):=E2.out.at 3 rfl
    have a3':wr.cell? ⟨w.heap.size+1,3,none⟩=some (.int .i64 0):=E2.out.at 3 rfl
    have f3:wr.drew.frozen? ⟨w.heap.size+1,3,none⟩=false:=E2.out.frozen 3
    have f3':=E2.out.frozen 3
    have a4:wr.drew.cell? ⟨w.heap.size+1,4,none⟩=some (.int .i64 0):=E2.out.at 4 rfl
    have a4':wr.cell? ⟨w.heap.size+1,4,none⟩=some (.int .i64 0):=E2.out.at 4 rfl
    have f4:wr.drew.frozen? ⟨w.heap.size+1,4,none⟩=false:=E2.out.frozen 4
    have f4':=E2.out.frozen 4
    have a5:wr.drew.cell? ⟨w.heap.size+1,5,none⟩=some (.int .i64 0):=E2.out.at 5 rfl
    have a5':wr.cell? ⟨w.heap.size+1,5,none⟩=some (.int .i64 0):=E2.out.at 5 rfl
    have f5:wr.drew.frozen? ⟨w.heap.size+1,5,none⟩=false:=E2.out.frozen 5
    have f5':=E2.out.frozen 5
    have a6:wr.drew.cell? ⟨w.heap.size+1,6,none⟩=some (.slice none 0 0):=E2.out.at 6 rfl
    have a6':wr.cell? ⟨w.heap.size+1,6,none⟩=some (.slice none 0 0):=E2.out.at 6 rfl
    have f6:wr.drew.frozen? ⟨w.heap.size+1,6,none⟩=false:=E2.out.frozen 6
    have f6':=E2.out.frozen 6
    have a7:wr.drew.cell? ⟨w.heap.size+1,7,none⟩=some (.slice none 0 0):=E2.out.at 7 rfl
    have a7':wr.cell? ⟨w.heap.size+1,7,none⟩=some (.slice none 0 0):=E2.out.at 7 rfl
    have f7:wr.drew.frozen? ⟨w.heap.size+1,7,none⟩=false:=E2.out.frozen 7
    have f7':=E2.out.frozen 7
    have a8:wr.drew.cell? ⟨w.heap.size+1,8,none⟩=some (.slice none 0 0):=E2.out.at 8 rfl
    have a8':wr.cell? ⟨w.heap.size+1,8,none⟩=some (.slice none 0 0):=E2.out.at 8 rfl
    have f8:wr.drew.frozen? ⟨w.heap.size+1,8,none⟩=false:=E2.out.frozen 8
    have f8':=E2.out.frozen 8
    refine head_l rfl ?_
    go_wp2_with fail
    obtain⟨X2,hX2,s2,hs2⟩:=store9e E2.out rfl (.int .i64 x.K) (.int .i64 x.au) (.int .i64 x.ep) (.int .i64 x.mode) (.int .i64 x.peer) (.int .i64 x.phase) (.slice D j cD) (.slice x.L2 x.lt x.c2) (.slice x.P x.lp x.c3)
    rw[←hX2]
    clear hX2
    refine⟨_,fun _ h=>h,⟨⟨_,hs2.wredrew.drew⟩,rfl⟩,?_⟩
    refine head_nil ?_
    try simp only[List.drop_succ_cons,List.drop_zero]
    clear a0 a1 a2 a3 a4 a5 a6 a7 a8 f0 f1 f2 f3 f4 f5 f6 f7 f8 a0' a1' a2' a3' a4' a5' a6' a7' a8' f0' f1' f2' f3' f4' f5' f6' f7' f8' p0 p1 p2 p3 p4 p5 p6 p7 p8 q0 q1 q2 q3 q4 q5 q6 q7 q8
    have s3:=E3.out.upd hs2 (fun h=>by unfold only at h;omega)
    have a0:X2.cell? ⟨w.heap.size+1+1,0,none⟩=some (.int .i64 0):=s3.at 0 rfl
    have f0:=s3.frozen 0
    have a1:X2.cell? ⟨w.heap.size+1+1,1,none⟩=some (.int .i64 0):=s3.at 1 rfl
    have f1:=s3.frozen 1
    have a2:X2.cell? ⟨w.heap.size+1+1,2,none⟩=some (.int .i64 0):=s3.at 2 rfl
    have f2:=s3.frozen 2
    have a3:X2.cell? ⟨w.heap.size+1+1,3,none⟩=some (.int .i64 0):=s3.at 3 rfl
    have f3:=s3.frozen 3
    have a4:X2.cell? ⟨w.heap.size+1+1,4,none⟩=some (.int .i64 0):=s3.at 4 rfl
    have f4:=s3.frozen 4
    have a5:X2.cell? ⟨w.heap.size+1+1,5,none⟩=some (.int .i64 0):=s3.at 5 rfl
    have f5:=s3.frozen 5
    have a6:X2.cell? ⟨w.heap.size+1+1,6,none⟩=some (.slice none 0 0):=s3.at 6 rfl
    have f6:=s3.frozen 6
    have a7:X2.cell? ⟨w.heap.size+1+1,7,none⟩=some (.slice none 0 0):=s3.at 7 rfl
    have f7:=s3.frozen 7
    have a8:X2.cell? ⟨w.heap.size+1+1,8,none⟩=some (.slice none 0 0):=s3.at 8 rfl
    have f8:=s3.frozen 8
    have S2:=hide s2
    have S3:=hide s3
    have U2:=hide hs2
    clear s3 s2 hs2
    go_wp2_with fail
    clear a0 a1 a2 a3 a4 a5 a6 a7 a8 f0 f1 f2 f3 f4 f5 f6 f7 f8
    obtain⟨X3,hX3,s5,hs5⟩:=store9e S3.out rfl (.int .i64 x.K) (.int .i64 x.au) (.int .i64 x.ep) (.int .i64 x.mode) (.int .i64 x.peer) (.int .i64 x.phase) (.slice F j cF) (.slice x.L2 x.lt x.c2) (.slice x.P x.lp x.c3)
    rw[←hX3]
    clear hX3
    have t2f:=S2.out.upd hs5 (fun h=>by unfold only at h;omega)
    obtain⟨hNL,hRL⟩:=HK.out.ret U2.out hs5 (by omega) (by omega)
    have hEx:Ext w X3:=Upd.fresh hs5 (Upd.fresh U2.out hEr (fun k hk=>by have:k=w.heap.size+1:=hk;omega)) (fun k hk=>by have:k=w.heap.size+1+1:=hk;omega)
    have hd:Ext X3 X3.drew:=(Upd.refl _ _).drew
    replace t2f:=t2f.ext hd
    replace s5:=s5.ext hd
    replace hNL:=hNL.ext hd
    replace hRL:=hRL.ext hd
    replace hEx:=hEx.trans hd
    rw[Hns.out]at hNL hRL
    clear hs5 hd
    generalize X3.drew=X4 at*
    have r0:X4.cell? ⟨w.heap.size+1,0,none⟩=some (.int .i64 x.K):=t2f.at 0 rfl
    have v0:X4.cell? ⟨w.heap.size+1+1,0,none⟩=some (.int .i64 x.K):=s5.at 0 rfl
    have r1:X4.cell? ⟨w.heap.size+1,1,none⟩=some (.int .i64 x.au):=t2f.at 1 rfl
    have v1:X4.cell? ⟨w.heap.size+1+1,1,none⟩=some (.int .i64 x.au):=s5.at 1 rfl
    have r2:X4.cell? ⟨w.heap.size+1,2,none⟩=some (.int .i64 x.ep):=t2f.at 2 rfl
    have v2:X4.cell? ⟨w.heap.size+1+1,2,none⟩=some (.int .i64 x.ep):=s5.at 2 rfl
    have r3:X4.cell? ⟨w.heap.size+1,3,none⟩=some (.int .i64 x.mode):=t2f.at 3 rfl
    have v3:X4.cell? ⟨w.heap.size+1+1,3,none⟩=some (.int .i64 x.mode):=s5.at 3 rfl
    have r4:X4.cell? ⟨w.heap.size+1,4,none⟩=some (.int .i64 x.peer):=t2f.at 4 rfl
    have v4:X4.cell? ⟨w.heap.size+1+1,4,none⟩=some (.int .i64 x.peer):=s5.at 4 rfl
    have r5:X4.cell? ⟨w.heap.size+1,5,none⟩=some (.int .i64 x.phase):=t2f.at 5 rfl
    have v5:X4.cell? ⟨w.heap.size+1+1,5,none⟩=some (.int .i64 x.phase):=s5.at 5 rfl
    have r6:X4.cell? ⟨w.heap.size+1,6,none⟩=some (.slice D j cD):=t2f.at 6 rfl
    have v6:X4.cell? ⟨w.heap.size+1+1,6,none⟩=some (.slice F j cF):=s5.at 6 rfl
    have r7:X4.cell? ⟨w.heap.size+1,7,none⟩=some (.slice x.L2 x.lt x.c2):=t2f.at 7 rfl
    have v7:X4.cell? ⟨w.heap.size+1+1,7,none⟩=some (.slice x.L2 x.lt x.c2):=s5.at 7 rfl
    have r8:X4.cell? ⟨w.heap.size+1,8,none⟩=some (.slice x.P x.lp x.c3):=t2f.at 8 rfl
    have v8:X4.cell? ⟨w.heap.size+1+1,8,none⟩=some (.slice x.P x.lp x.c3):=s5.at 8 rfl
    refine bodyPost_ret (v:=.tuple #[.agg (ecs x (.slice D j cD)),.agg (ecs x (.slice F j cF))]) ?_ rfl ⟨D,cD,F,cF,by rw[Hjn.out],hEx,hNL,hRL⟩
    simp[results,Tryz.results13,go_sem,ecs,r0,r1,r2,r3,r4,r5,r6,r7,r8,v0,v1,v2,v3,v4,v5,v6,v7,v8]
end Go.Proofs.YtbhhjfhepkbfgaaGreat
