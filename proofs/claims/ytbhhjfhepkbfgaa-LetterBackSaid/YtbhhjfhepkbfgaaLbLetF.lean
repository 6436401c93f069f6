/- Letters, walked: Open. -/
import Derived.Test.YtbhhjfhepkbfgaaLbLetD
namespace Go.Proofs.Ytbhhjfhepkbfgaa
set_option linter.unusedSimpArgs false
set_option linter.unusedVariables false
open Go.RowKit
open Nt Sha Strm
attribute [local go_sem] steady steadyUpon Cls same_cell anyW
attribute [local irreducible] wpHead wpTree wpHeadR Sha.sum bxO
section
variable (gr P Q G H k : Nat) (w : World)
set_option maxRecDepth 100000 in
set_option maxHeartbeats 2000000 in
theorem lopen_any (A0 D:Option Addr) (l0 c0 sh s f t n d:Nat) (b:List (BitVec 8)) (h:GrpV w gr P Q G H) (h0:NatV w (.agg #[.slice A0 l0 c0]) sh) (hFs:Fit k sh) (hP:Fit k P) (hQ:Fit k Q) (hk:k≤50000) (hk1:1≤k) (hm:memB P Q sh=true) (hs:s≤1048576) (hf:f≤1048576) (ht:t≤1048576) (hb:Pt.ok w ⟨D,n+16,d,b⟩) (hn:n+16≤1000):
 Calls Try.prog 22 #[.pointer (some ⟨gr,0,none⟩),.agg #[.slice A0 l0 c0],.int .i64 (s:Int),.int .i64 (f:Int),.int .i64 (t:Int),.slice D (n+16:Nat) d] w (RetBxO w n (bxO (keyB P Q sh (nameB s f t)) non12 (nameB s f t) b)):=by
 have Hb:=hide hb
 obtain⟨N,hN⟩:∃N,N=n+16:=⟨_,rfl⟩
 obtain⟨o,ho⟩:∃o,o=bxO (keyB P Q sh (nameB s f t)) non12 (nameB s f t) b:=⟨_,rfl⟩
 rw[←hN,←ho]
 have HN:=hide hN
 have Ho:=hide ho
 clear hN ho
 have Hm:=hide hm
 have hall:[(s:Int),(f:Int),(t:Int)].all inB=true:=by
  simp only[List.all_cons,List.all_nil,inB,Bool.and_true,Bool.and_eq_true,decide_eq_true_eq]
  omega
 have Hall:=hide hall
 clear hb hm hall
 go_enter Try.func22,Try.ntmps22
 obtain⟨W,hW⟩:∃W,W=w.alloc (.cells #[.slice A0 l0 c0] 33):=⟨_,rfl⟩
 have b7:Box W w.heap.size 33 (.slice A0 l0 c0):=by rw[hW];exact Box.new _ _ _
 have hE:Ext w W:=by rw[hW];exact(Upd.refl _ w).alloc _
 have hWs:W.heap.size=w.heap.size+1:=by rw[hW];simp
 go_wp2_with fail
 rw[←hW]
 have hZ:=byZ_three (w:=W) (s:Int) (f:Int) (t:Int) 128
 refine(lnumber_any _ _ 3 3 [(s:Int),(f:Int),(t:Int)] (by rw[←hWs];exact Sl.new byZ W _ [(s:Int),(f:Int),(t:Int)]) rfl (by omega)).mono ?_
 rw[Hall.out]
 rintro e w1 ⟨rfl,rfl⟩
 go_wp2_with fail
 refine name_c (fun V hV=>?_)
 have hWV:Ext W V:=by rw[hV,←hW];exact(Upd.refl _ _).alloc _
 have hE1:=hE.trans hWV
 clear hV hZ
 refine(lname_any V s f t hs hf ht).mono ?_
 rintro e w2 ⟨A2,c2,rfl,hO2,hU2⟩
 have hE2:=hE1.trans hU2
 have hp2:=Own.pt hO2 (nameB_length s f t)
 have Hp2:=hide hp2
 have q7:=(b7.ext (hWV.trans hU2)).cell
 clear hO2 hp2
 go_wp2_with fail
 clear q7
 refine(lkey_any gr P Q G H k w2 A0 A2 l0 c0 18 c2 sh (nameB s f t) (h.ext hE2) (h0.ext hE2) ⟨Hp2.out.2.2.2,Hp2.out.1,Hp2.out.2.1,Hp2.out.2.2.1⟩ hFs hP hQ hk hk1 (by omega) Hm.out).mono ?_
 rintro e w3 ⟨A3,c3,rfl,hO3,hU3⟩
 have hE3:=hE2.trans hU3
 have hkl:(keyB P Q sh (nameB s f t)).length=32:=expand_32 _ _
 have hc3:32≤c3:=by have h1:=hO3.1;rw[List.length_map,hkl]at h1;exact h1
 have hS3:=hO3.sl
 have HS3:=hide hS3
 have Hkl:=hide hkl
 clear hO3 hS3 hkl
 go_wp2_with (at_make;go_must (refine wpList_mk _ _ _ Try.el8 rfl rfl 12 rfl rfl rfl rfl (by omega) (by unfold maxLen;omega) by8 rfl rfl (B:=w3.heap.size) (Nat.le_refl _) ?_);rintro g4 w4 hO4 rfl hU4)
 have hE4:=hE3.trans hU4
 have hS4:Sl by8 w4 (some ⟨w3.heap.size,0,none⟩) non12:=hO4.sl
 have hop:=bopen_any A3 (some ⟨w3.heap.size,0,none⟩) A2 D c3 12 18 c2 n d (keyB P Q sh (nameB s f t)) non12 (nameB s f t) b w4 ⟨Hkl.out,rfl,hc3,Nat.le_refl _,HS3.out.ext hU4,hS4,rfl,by omega,Hp2.out.2.2.2.ext (hU3.trans hU4),Hb.out.2.1,hn,Hb.out.1.ext hE4⟩ Hb.out.2.2.1
 rw[←HN.out,←Ho.out]at hop
 refine hop.mono ?_
 clear hop
 cases o with
 | none=>
   rintro e w5 ⟨rfl,hU5⟩
   have hG:=hE4.trans hU5
   go_wp2_with fail
   go_ret2
   exact⟨rfl,hG⟩
 | some bs=>
   rintro e w5 ⟨A5,c5,rfl,hl5,hO5,hU5⟩
   have hO:=hO5.mono (B':=w.heap.size) hE4.size
   have hG:=hE4.trans hU5
   have Hl5:=hide hl5
   clear hO5 hO4 hl5
   go_wp2_with fail
   go_ret2
   exact⟨A5,c5,rfl,Hl5.out,hO,hG⟩
end
end Go.Proofs.Ytbhhjfhepkbfgaa
