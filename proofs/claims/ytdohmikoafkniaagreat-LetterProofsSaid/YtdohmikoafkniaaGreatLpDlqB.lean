/- Equal exponents, walked: Answer. -/
import Derived.Test.YtdohmikoafkniaaGreatLpDlqA
namespace Go.Proofs.YtdohmikoafkniaaGreat
set_option linter.unusedSimpArgs false
set_option linter.unusedVariables false
open Go.RowKit
open Nt Sha
attribute [local go_sem] steady steadyUpon Cls same_cell anyW
attribute [local irreducible] wpHead wpTree wpHeadR sum chalOf
theorem Sl.keep0 {α:Type} [Inhabited α] {f:α→Value} {w w':World} {A:Option Addr} {xs:List α} {T:Nat→Prop} (h:Sl f w A xs) (hu:Upd T w w') (hT:0<xs.length→∀k,inA A k→¬T k):Sl f w' A xs:=by
 rcases Nat.eq_zero_or_pos xs.length with h0 | h0
 · exact fun i hi=>absurd hi (by omega)
 · exact h.upd hu (fun b o e=>hT h0 b (by rw[e];simp[inA]))
def PL (w:World) (B:Nat) (A:Option Addr) (c:Nat) (ps:List Pt):Prop:=
 Own w B 23 A c (ps.map Pt.val)∧∀p∈ps,p.ok w∧(0<p.bs.length→∀k,inA p.A k→¬inA A k)
theorem PL.ext {w w':World} {B:Nat} {A:Option Addr} {c:Nat} {ps:List Pt} (h:PL w B A c ps) (hu:Ext w w'):PL w' B A c ps:=⟨h.1.ext hu,fun p hp=>⟨(h.2 p hp).1.ext hu,(h.2 p hp).2⟩⟩
theorem PL.kept {w w':World} {B:Nat} {A:Option Addr} {c:Nat} {ps:List Pt} (h:PL w B A c ps) (hu:Upd (inA A) w w'):∀p∈ps,p.ok w':=fun p hp=>⟨(h.2 p hp).1.1.keep0 hu (h.2 p hp).2,(h.2 p hp).1.2⟩
theorem PL.push {w w1 w2 w3:World} {B:Nat} {A A':Option Addr} {c c':Nat} {ps:List Pt} {p:Pt} (h:PL w B A c ps) (hU1:Ext w w1) (hp:p.ok w1) (hpn:∀k,inA p.A k→w.heap.size≤k) (hU2:Ext w1 w2)
 (hO3:Own w3 B 23 A' c' ((ps++[p]).map Pt.val)) (hU3:Upd (inA A) w2 w3) (hin:∀k,inA A' k→inA A k∨k=w2.heap.size):PL w3 B A' c' (ps++[p]):=by
 refine⟨hO3,fun q hq=>?_⟩
 have h2:=h.ext (hU1.trans hU2)
 rcases List.mem_append.1 hq with hq | hq
 · refine⟨h2.kept hU3 q hq,fun h0 k hk hk'=>?_⟩
   rcases hin k hk' with h3 | h3
   · exact(h.2 q hq).2 h0 k hk h3
   · have:=(h.2 q hq).1.1.inA_lt h0 hk
     have:=(hU1.trans hU2).size
     omega
 · obtain rfl:q=p:=by simpa using hq
   have hA:∀k,inA q.A k→¬inA A k:=fun k hk hk'=>by
     have h1:=hpn k hk
     have h2:=(h.1.in_ hk').2
     omega
   refine⟨⟨(hp.1.ext hU2).keep0 hU3 (fun _=>hA),hp.2⟩,fun h0 k hk hk'=>?_⟩
   rcases hin k hk' with h3 | h3
   · exact hA k hk h3
   · have:=hp.1.inA_lt h0 hk
     have:=hU2.size
     omega
theorem Tryz.n_elBs :ElemI Tryz.prog 61 23 (.slice none 0 0) 24:=⟨by kernel_rfl,by kernel_rfl,rfl⟩
theorem ptv_one (p:Pt):(Pt.val p).oneCell'=true:=rfl
theorem natL6 {w:World} {b:Nat} {t:TypeId} {A0 A1 A2 A3 A4 A5:Option Addr} {l0 c0 n0 l1 c1 n1 l2 c2 n2 l3 c3 n3 l4 c4 n4 l5 c5 n5:Nat} (hb:Blk w b t #[.slice A0 l0 c0,.slice A1 l1 c1,.slice A2 l2 c2,.slice A3 l3 c3,.slice A4 l4 c4,.slice A5 l5 c5])
 (h0:NatV w (.agg #[.slice A0 l0 c0]) n0) (h1:NatV w (.agg #[.slice A1 l1 c1]) n1) (h2:NatV w (.agg #[.slice A2 l2 c2]) n2) (h3:NatV w (.agg #[.slice A3 l3 c3]) n3) (h4:NatV w (.agg #[.slice A4 l4 c4]) n4) (h5:NatV w (.agg #[.slice A5 l5 c5]) n5):NatL w (some ⟨b,0,none⟩) [n0,n1,n2,n3,n4,n5]:=by
 refine⟨[⟨A0,l0,c0⟩,⟨A1,l1,c1⟩,⟨A2,l2,c2⟩,⟨A3,l3,c3⟩,⟨A4,l4,c4⟩,⟨A5,l5,c5⟩],rfl,fun j hj=>?_,fun j hj=>?_⟩
 · match j,hj with
   | 0,_=>exact⟨b,0,rfl,hb.at 0 rfl⟩
   | 1,_=>exact⟨b,0,rfl,hb.at 1 rfl⟩
   | 2,_=>exact⟨b,0,rfl,hb.at 2 rfl⟩
   | 3,_=>exact⟨b,0,rfl,hb.at 3 rfl⟩
   | 4,_=>exact⟨b,0,rfl,hb.at 4 rfl⟩
   | 5,_=>exact⟨b,0,rfl,hb.at 5 rfl⟩
 · match j,hj with
   | 0,_=>exact h0
   | 1,_=>exact h1
   | 2,_=>exact h2
   | 3,_=>exact h3
   | 4,_=>exact h4
   | 5,_=>exact h5
def dlqB :List (BitVec 8):=[100,108,101,113]
def ansN (P Q:Nat) (ns:List Nat) (side:List (BitVec 8)):Nat:=if ns.all (memB P Q)=true then chalOf (dlqB :: ns.map (memBy P Q)++[side]) Q else 0
section
variable (gr P Q G H k : Nat) (w : World)
set_option maxRecDepth 100000 in
set_option maxHeartbeats 4000000 in
theorem dans_any (A0 A1 A2 A3 A4 A5 AS:Option Addr) (l0 c0 l1 c1 l2 c2 l3 c3 l4 c4 l5 c5 n c:Nat) (a b y z u v:Nat) (side:List (BitVec 8)) (h:GrpV w gr P Q G H) (h0:NatV w (.agg #[.slice A0 l0 c0]) a) (h1:NatV w (.agg #[.slice A1 l1 c1]) b) (h2:NatV w (.agg #[.slice A2 l2 c2]) y) (h3:NatV w (.agg #[.slice A3 l3 c3]) z) (h4:NatV w (.agg #[.slice A4 l4 c4]) u) (h5:NatV w (.agg #[.slice A5 l5 c5]) v)
 (hM:Pt.ok w ⟨AS,n,c,side⟩) (hF:∀x∈[a,b,y,z,u,v],Fit k x) (hP:Fit k P) (hQ:Fit k Q) (hk:k≤50000) (hk8:8≤k) (hn:n≤1000000):
 Calls Tryz.prog 60 #[.pointer (some ⟨gr,0,none⟩),.agg #[.slice A0 l0 c0,.slice A1 l1 c1,.slice A2 l2 c2,.slice A3 l3 c3],.agg #[.slice A4 l4 c4],.agg #[.slice A5 l5 c5],.slice AS n c] w (RetN w (ansN P Q [a,b,y,z,u,v] side)):=by
 have hc1:=fun w=>Lib.run_convert_bytes_const (P:=Tryz.prog) w 23 5 #[.int .u8 100,.int .u8 108,.int .u8 101,.int .u8 113] 4 4 Tryz.under_bs Tryz.under8
 have HG:=hide h
 have HM:=hide hM
 have hsz:=byteSz_le hP
 obtain⟨ns,hns⟩:∃ns,ns=[a,b,y,z,u,v]:=⟨_,rfl⟩
 obtain⟨R,hR⟩:∃R,R=RetN w (ansN P Q [a,b,y,z,u,v] side):=⟨_,rfl⟩
 rw[←hR]
 rw[←hns]at hR hF
 have HR:=hide hR
 have Hns:=hide hns
 have HF:=hide hF
 clear hR hns hF h hM
 go_enter Tryz.func60,Tryz.ntmps60
 obtain⟨W0,hW0⟩:∃W0,W0=(((w.alloc (.cells #[.slice A0 l0 c0,.slice A1 l1 c1,.slice A2 l2 c2,.slice A3 l3 c3] 37)).alloc (.cells #[.slice A4 l4 c4] 34)).alloc (.cells #[.slice A5 l5 c5] 34)).alloc (.cells #[.slice none 0 0] 34):=⟨_,rfl⟩
 have b6:Blk W0 w.heap.size 37 #[.slice A0 l0 c0,.slice A1 l1 c1,.slice A2 l2 c2,.slice A3 l3 c3]:=by rw[hW0];exact(((Blk.new _ _ _).ext ((Upd.refl _ _).alloc _)).ext ((Upd.refl _ _).alloc _)).ext ((Upd.refl _ _).alloc _)
 have b7:Box W0 (w.heap.size+1) 34 (.slice A4 l4 c4):=by rw[hW0];exact((Box.new_at (by simp)).alloc _).alloc _
 have b8:Box W0 (w.heap.size+1+1) 34 (.slice A5 l5 c5):=by rw[hW0];exact(Box.new_at (by simp)).alloc _
 have b10:Box W0 (w.heap.size+1+1+1) 34 (.slice none 0 0):=by rw[hW0];exact Box.new_at (by simp)
 have hE:Ext w W0:=by rw[hW0];exact((((Upd.refl _ w).alloc _).alloc _).alloc _).alloc _
 have q0:=b6.at 0 rfl
 have q1:=b6.at 1 rfl
 have q2:=b6.at 2 rfl
 have q3:=b6.at 3 rfl
 have q7:=b7.cell
 have q8:=b8.cell
 rw[hW0]at q0 q1 q2 q3 q7 q8
 go_wp2_with fail
 clear q0 q1 q2 q3 q7 q8
 refine name_c (fun W hW=>?_)
 rw[←hW0]at hW
 have hW0s:W0.heap.size=w.heap.size+1+1+1+1:=by rw[hW0];simp
 have b10':Box W (w.heap.size+1+1+1) 34 (.slice none 0 0):=by rw[hW];exact b10.alloc _
 have hEW:Ext w W:=by rw[hW];exact hE.alloc _
 have hL:NatL W (some ⟨w.heap.size+1+1+1+1,0,none⟩) ns:=by
  rw[Hns.out]
  have hx:Ext w (W0.alloc (.cells #[.slice A0 l0 c0,.slice A1 l1 c1,.slice A2 l2 c2,.slice A3 l3 c3,.slice A4 l4 c4,.slice A5 l5 c5] 34)):=hE.alloc _
  rw[hW]
  exact natL6 (Blk.new_at (t:=34) hW0s) (h0.ext hx) (h1.ext hx) (h2.ext hx) (h3.ext hx) (h4.ext hx) (h5.ext hx)
 have hnl:ns.length=6:=by rw[Hns.out];rfl
 have hFg:∀i,i<6→Fit k (gat ns i):=fun i hi=>HF.out _ (by rw[gat_lt (by omega)];exact List.getElem_mem _)
 have HL:=hide hL
 have Hnl:=hide hnl
 have HFg:=hide hFg
 clear hW hW0 hW0s b6 b7 b8 b10 hE h0 h1 h2 h3 h4 h5 hL hnl hFg W0
 refine(dmembers_any gr P Q G H k W _ 6 6 ns (HG.out.ext hEW) HL.out Hnl.out (by omega) HFg.out hP hQ hk (by omega)).mono ?_
 rintro e w1 ⟨rfl,hU1⟩
 have hE1:=hEW.trans hU1
 have b10:=b10'.ext hU1
 cases hall:ns.all (memB P Q)with
 | false=>
   have z2:=b10.cell
   have z3:=b10.frozen
   have Hall:=hide hall
   clear hall
   go_wp2_with fail
   have q:=(b10.set (.slice none 0 0)).cell
   refine bodyPost_ret (v:=.agg #[.slice none 0 0]) (by simp[results,Tryz.results60,go_sem,q]) rfl ?_
   rw[HR.out]
   unfold ansN
   rw[if_neg (by rw[Hall.out];decide)]
   exact⟨_,_,_,rfl,NatV.nil _,hE1.setCell (p:=⟨w.heap.size+1+1+1,0,none⟩) (.inr (by simp;omega)) _⟩
 | true=>
   have Hall:=hide hall
   have hEl:Ext w1 (w1.alloc (.cells #[.int .u8 100,.int .u8 108,.int .u8 101,.int .u8 113] 5 (4,5))):=(Upd.refl _ _).alloc _
   have hS0:Sl by8 (w1.alloc (.cells #[.int .u8 100,.int .u8 108,.int .u8 101,.int .u8 113] 5 (4,5))) (some ⟨w1.heap.size,0,none⟩) dlqB:=Sl.mark by8 w1 5 (4,5) dlqB
   have HS0:=hide hS0
   clear hall hS0 b10'
   go_wp2_with fail
   refine name_w (fun W1 hW1=>?_)
   have hUW1:Ext w1 W1:=by rw[hW1];exact hEl.alloc _
   have hPL0:PL W1 w1.heap.size (some ⟨w1.heap.size+1,0,none⟩) 1 [(⟨some ⟨w1.heap.size,0,none⟩,4,4,dlqB⟩:Pt)]:=by
    refine⟨by rw[hW1];exact Own.lit_at Pt.val _ [(⟨some ⟨w1.heap.size,0,none⟩,4,4,dlqB⟩:Pt)] (by simp) (by simp[maxLen]) (by simp),fun p hp=>?_⟩
    obtain rfl:p=(⟨some ⟨w1.heap.size,0,none⟩,4,4,dlqB⟩:Pt):=by simpa using hp
    exact⟨⟨by rw[hW1];exact HS0.out.ext ((Upd.refl _ _).alloc _),rfl,Nat.le_refl _,by simp[maxLen]⟩,fun _ k hk hk'=>by simp[inA]at hk hk';omega⟩
   have HPL0:=hide hPL0
   clear hW1 hPL0 hEl HS0
   go_loopw [38,12,14,15,16] (fun i pv _ _ _ wx=>∃(j:Nat) (A':Option Addr) (c':Nat) (ps:List Pt),j≤6∧i=.int .i64 (j:Int)∧pv=.slice A' (j+1) c'∧ps.length=j+1∧ps.map (·.bs)=dlqB :: (ns.take j).map (memBy P Q)∧PL wx w1.heap.size A' c' ps∧Ext w1 wx) (fun i _ _ _ _ _=>6 - (intOf i).toNat)
   case atStart=>exact⟨0,_,_,[(⟨some ⟨w1.heap.size,0,none⟩,4,4,dlqB⟩:Pt)],by omega,rfl,rfl,rfl,rfl,HPL0.out,hUW1⟩
   case round=>
    obtain⟨j,A',c',ps,hj,rfl,rfl,hpl,hpb,hPL,hU⟩:=hrel
    have HPL:=hide hPL
    have Hpl:=hide hpl
    have Hpb:=hide hpb
    have hEr:=hE1.trans hU
    have hWr:=hU1.trans hU
    clear hPL hpl hpb
    by_cases hlt:j<6
    case pos=>
     have hlti:(j:Int)<6:=by omega
     obtain⟨bb,oo,B9,m9,d9,eA,q0,hVj⟩:=(HL.out.ext hWr).at (i:=j) (by rw[Hnl.out];exact hlt)
     injection eA with eA
     injection eA with e1 e2 e3
     subst e1 e2
     rw[Nat.zero_add]at q0
     have hFj:=HFg.out j hlt
     have htk:(ns.take (j+1)).map (memBy P Q)=(ns.take j).map (memBy P Q)++[memBy P Q (gat ns j)]:=by
      rw[List.take_succ_eq_append_getElem (by rw[Hnl.out];exact hlt),List.map_append,gat_lt (by rw[Hnl.out];exact hlt)];rfl
     obtain⟨x,hx⟩:∃x,x=gat ns j:=⟨_,rfl⟩
     rw[←hx]at hVj hFj htk
     have Htk:=hide htk
     have q1:=(Box.new wr 34 (.slice B9 m9 d9)).cell
     clear hx htk
     go_wp2_with fail
     clear q1
     refine name_c (fun V hV=>?_)
     have hrV:Ext wr V:=by rw[hV];exact(Upd.refl _ _).alloc _
     clear hV
     refine(gBytes_any gr P Q G H k V _ x (HG.out.ext (hEr.trans hrV)) (hVj.ext hrV) hFj hP hQ hk (by omega)).mono ?_
     rintro e v1 ⟨A9,l9,c9,rfl,hl9,hlc9,hm9,hS9,hin9,hv1⟩
     have hr1:=hrV.trans hv1
     have hpk:Pt.ok v1 ⟨A9,l9,c9,memBy P Q x⟩:=⟨hS9,hl9,hlc9,hm9⟩
     have Hpk:=hide hpk
     have Hin9:=hide hin9
     have hsV:=hrV.size
     have hlN:(ps++[(⟨A9,l9,c9,memBy P Q x⟩:Pt)]).length=j+1+1:=by rw[List.length_append,Hpl.out];rfl
     have HlN:=hide hlN
     have hrs:w1.heap.size≤wr.heap.size:=hU.size
     clear hl9 hlc9 hm9 hS9 hin9 hpk hlN
     go_wp2_with (at_builtin;go_must (refine name_l2 (fun W2 hW2=>?_));go_must (have h12:Ext v1 W2:=(by rw[hW2];exact(Upd.refl _ _).alloc _));go_must (have hSl2:Sl Pt.val W2 (some ⟨v1.heap.size,0,none⟩) [(⟨A9,l9,c9,memBy P Q x⟩:Pt)]:=(by rw[hW2];exact Sl.new Pt.val v1 23 [(⟨A9,l9,c9,memBy P Q x⟩:Pt)]));clear hW2;go_must (refine wpList_apd Pt.val ptv_one Tryz.n_elBs ps [(⟨A9,l9,c9,memBy P Q x⟩:Pt)] (ps++[(⟨A9,l9,c9,memBy P Q x⟩:Pt)]) (j+1+1) rfl HlN.out (by omega) (by unfold maxLen;omega) rfl rfl rfl Hpl.out ((HPL.out.ext (hr1.trans h12)).1) rfl rfl hSl2 (Nat.le_trans hrs (hr1.trans h12).size) ?_);intro A10 c10 w10 hO10 hU10 hin10)
     have hPLn:PL w10 w1.heap.size A10 c10 (ps++[(⟨A9,l9,c9,memBy P Q x⟩:Pt)]):=HPL.out.push hr1 Hpk.out (fun q hq=>Nat.le_trans hsV (Hin9.out q hq)) h12 hO10 hU10 hin10
     have hUn:Ext w1 w10:=upd_new hU10 (hU.trans (hr1.trans h12)) (fun q hq=>(HPL.out.1.in_ hq).1)
     go_roundw
     case rel=>exact⟨j+1,A10,c10,_,by omega,by go_num,rfl,HlN.out,by rw[List.map_append,Hpb.out,Htk.out];rfl,hPLn,hUn⟩
     case measure=>simp[intOf];omega
    case neg=>
     obtain rfl:j=6:=by omega
     have hlti:¬(((6:Nat):Int)<6):=by omega
     have htf:ns.take 6=ns:=List.take_of_length_le (by rw[Hnl.out];exact Nat.le_refl _)
     have hlN:(ps++[(⟨AS,n,c,side⟩:Pt)]).length=8:=by rw[List.length_append,Hpl.out];rfl
     have hmb:(ps++[(⟨AS,n,c,side⟩:Pt)]).map (·.bs)=dlqB :: ns.map (memBy P Q)++[side]:=by rw[List.map_append,Hpb.out,htf];rfl
     have hmn:∀p∈ps++[(⟨AS,n,c,side⟩:Pt)],p.bs.length=p.n:=fun p hp=>by
       rcases List.mem_append.1 hp with hp | hp
       · exact(HPL.out.2 p hp).1.2.1
       · obtain rfl:p=(⟨AS,n,c,side⟩:Pt):=by simpa using hp
         exact HM.out.2.1
     have hcl:(chalB (ps++[(⟨AS,n,c,side⟩:Pt)])).length≤100000000:=by
      have hsl:side.length=n:=HM.out.2.1
      have m0:=memBy_len P Q a
      have m1:=memBy_len P Q b
      have m2:=memBy_len P Q y
      have m3:=memBy_len P Q z
      have m4:=memBy_len P Q u
      have m5:=memBy_len P Q v
      rw[chalB_bs _ hmn,hmb,Hns.out]
      simp only[chalBs,List.map_cons,List.map_nil,List.cons_append,List.nil_append,List.flatMap_cons,List.flatMap_nil,List.length_append,leK_length,List.length_nil,dlqB,List.length_cons]
      omega
     have HlN:=hide hlN
     have Hmb:=hide hmb
     have Hmn:=hide hmn
     have Hcl:=hide hcl
     have hrs:w1.heap.size≤wr.heap.size:=hU.size
     clear htf hlN hmb hmn hcl
     go_wp2_with (at_builtin;go_must (refine name_l2 (fun W2 hW2=>?_));go_must (have h12:Ext wr W2:=(by rw[hW2];exact(Upd.refl _ _).alloc _));go_must (have hSl2:Sl Pt.val W2 (some ⟨wr.heap.size,0,none⟩) [(⟨AS,n,c,side⟩:Pt)]:=(by rw[hW2];exact Sl.new Pt.val wr 23 [(⟨AS,n,c,side⟩:Pt)]));clear hW2;go_must (refine wpList_apd Pt.val ptv_one Tryz.n_elBs ps [(⟨AS,n,c,side⟩:Pt)] (ps++[(⟨AS,n,c,side⟩:Pt)]) 8 rfl HlN.out (by omega) (by unfold maxLen;omega) rfl rfl rfl Hpl.out ((HPL.out.ext h12).1) rfl rfl hSl2 (Nat.le_trans hrs h12.size) ?_);intro A10 c10 w10 hO10 hU10 hin10)
     have hUn:Ext w1 w10:=upd_new hU10 (hU.trans h12) (fun q hq=>(HPL.out.1.in_ hq).1)
     have hEn:=hE1.trans hUn
     have hPts:Pts w10 A10 (ps++[(⟨AS,n,c,side⟩:Pt)]):=⟨hO10.sl,fun i hi=>by
       have hmem:=List.getElem_mem hi
       rw[←gat_lt hi]at hmem
       rcases List.mem_append.1 hmem with hp | hp
       · exact(HPL.out.ext h12).kept hU10 _ hp
       · have e:gat (ps++[(⟨AS,n,c,side⟩:Pt)]) i=(⟨AS,n,c,side⟩:Pt):=by simpa using hp
         rw[e]
         exact HM.out.ext hEn⟩
     refine(gChal_any gr P Q G H k A10 8 c10 _ w10 (HG.out.ext hEn) hPts HlN.out (by omega) Hcl.out hQ hk8 (by omega)).mono ?_
     rw[chalN_bs Hmn.out,Hmb.out]
     rintro e w11 ⟨A11,l11,c11,rfl,hV11,hU11⟩
     have b10n:=b10.ext (hUn.trans hU11)
     have hEE:=hEn.trans hU11
     have z2:=b10n.cell
     have z3:=b10n.frozen
     clear hO10 hU10 hin10 hPts hSl2
     go_wp2_with fail
     have q:=(b10n.set (.slice A11 l11 c11)).cell
     refine bodyPost_ret (v:=.agg #[.slice A11 l11 c11]) (by simp[results,Tryz.results60,go_sem,q]) rfl ?_
     rw[HR.out]
     unfold ansN
     rw[if_pos Hall.out]
     exact⟨_,_,_,rfl,hV11.far z2,hEE.setCell (p:=⟨w.heap.size+1+1+1,0,none⟩) (.inr (by simp;omega)) _⟩
end
end Go.Proofs.YtdohmikoafkniaaGreat
