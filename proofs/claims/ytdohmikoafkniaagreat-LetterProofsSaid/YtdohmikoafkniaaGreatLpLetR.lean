/- The document's letters, walked: four, side, Name, key, Seal, Open. -/
import Derived.Test.YtdohmikoafkniaaGreatLpSgnP
import Derived.Test.YtdohmikoafkniaaGreatLpMonoF
import Derived.Test.YtdohmikoafkniaaGreatLpLetF
namespace Go.Proofs.YtdohmikoafkniaaGreat
set_option linter.unusedSimpArgs false
set_option linter.unusedVariables false
open Go.RowKit
open Nt Sha
attribute [local go_sem] steady steadyUpon Cls same_cell anyW
attribute [local irreducible] wpHead wpTree wpHeadR sum chalOf
section
variable (k : Nat) (w : World) (v : Value) (P Q G H : Nat)
set_option maxRecDepth 100000 in
set_option maxHeartbeats 1000000 in
theorem rwidth_any (h:RGrpV w v P Q G H) (hF:blen Q≤1000000):Calls Tryz.prog 106 #[v] w fun e w'=>e=.returned (.int .i64 (byteSz Q:Nat))∧Ext w w':=by
  obtain⟨A1,l1,c1,A2,l2,c2,A3,l3,c3,A4,l4,c4,rfl,h1,h2,h3,h4⟩:=h
  have hlen:=h2.len
  have hF':=hF
  rw[←hlen]at hF'
  have hLb:=byteSz_int Q
  rw[←hlen]at hLb
  obtain⟨z,hz⟩:∃z,z=byteSz Q:=⟨_,rfl⟩
  rw[←hz]at hLb ⊢
  clear hlen hz
  go_enter Tryz.func106,Tryz.ntmps106
  have b1:Blk (w.alloc (.cells #[.slice A1 l1 c1,.slice A2 l2 c2,.slice A3 l3 c3,.slice A4 l4 c4] 30)) w.heap.size 30 #[.slice A1 l1 c1,.slice A2 l2 c2,.slice A3 l3 c3,.slice A4 l4 c4]:=Blk.new _ _ _
  have q:=b1.at 1 rfl
  go_wp2_with fail
  go_ret
  exact⟨congrArg (fun x=>Ending.returned (.int .i64 x)) hLb,(Upd.refl _ w).alloc _⟩
set_option maxRecDepth 100000 in
set_option maxHeartbeats 1000000 in
theorem rsize_any (h:RGrpV w v P Q G H) (hF:blen P≤1000000):Calls Tryz.prog 134 #[v] w fun e w'=>e=.returned (.int .i64 (byteSz P:Nat))∧Ext w w':=by
  obtain⟨A1,l1,c1,A2,l2,c2,A3,l3,c3,A4,l4,c4,rfl,h1,h2,h3,h4⟩:=h
  have hlen:=h1.len
  have hF':=hF
  rw[←hlen]at hF'
  have hLb:=byteSz_int P
  rw[←hlen]at hLb
  obtain⟨z,hz⟩:∃z,z=byteSz P:=⟨_,rfl⟩
  rw[←hz]at hLb ⊢
  clear hlen hz
  go_enter Tryz.func134,Tryz.ntmps134
  have b1:Blk (w.alloc (.cells #[.slice A1 l1 c1,.slice A2 l2 c2,.slice A3 l3 c3,.slice A4 l4 c4] 30)) w.heap.size 30 #[.slice A1 l1 c1,.slice A2 l2 c2,.slice A3 l3 c3,.slice A4 l4 c4]:=Blk.new _ _ _
  have q:=b1.at 0 rfl
  go_wp2_with fail
  go_ret
  exact⟨congrArg (fun x=>Ending.returned (.int .i64 x)) hLb,(Upd.refl _ w).alloc _⟩
set_option maxRecDepth 100000 in
set_option maxHeartbeats 1000000 in
theorem rfixed_any (vx:Value) (x:Nat) (h:RGrpV w v P Q G H) (hV:RefV w vx x) (hF:blen Q≤1000000) (hFx:blen x≤1000000) (hbx:bytelen x≤byteSz Q):Calls Tryz.prog 68 #[v,vx] w (RetS w (byteSz Q) (toB x (byteSz Q))):=by
 obtain⟨A1,l1,c1,A2,l2,c2,A3,l3,c3,A4,l4,c4,rfl,h1,h2,h3,h4⟩:=h
 obtain⟨A5,l5,c5,xs,rfl, -⟩:=hV.open_
 have hG:RGrpV w (.agg #[.slice A1 l1 c1,.slice A2 l2 c2,.slice A3 l3 c3,.slice A4 l4 c4]) P Q G H:=⟨A1,l1,c1,A2,l2,c2,A3,l3,c3,A4,l4,c4,rfl,h1,h2,h3,h4⟩
 have hsz:byteSz Q≤1000000:=by unfold byteSz;omega
 have HG:=hide hG
 obtain⟨z,hz⟩:∃z,z=byteSz Q:=⟨_,rfl⟩
 rw[←hz]at hbx hsz ⊢
 have Hz:=hide hz
 clear hz hG h1 h2 h3 h4
 go_enter Tryz.func68,Tryz.ntmps68
 have b1:Blk (w.alloc (.cells #[.slice A1 l1 c1,.slice A2 l2 c2,.slice A3 l3 c3,.slice A4 l4 c4] 30)) w.heap.size 30 #[.slice A1 l1 c1,.slice A2 l2 c2,.slice A3 l3 c3,.slice A4 l4 c4]:=Blk.new _ _ _
 have q0:=b1.at 0 rfl
 have q1:=b1.at 1 rfl
 have q2:=b1.at 2 rfl
 have q3:=b1.at 3 rfl
 have hE:Ext w (w.alloc (.cells #[.slice A1 l1 c1,.slice A2 l2 c2,.slice A3 l3 c3,.slice A4 l4 c4] 30)):=(Upd.refl _ w).alloc _
 go_wp2_with fail
 clear q0 q1 q2 q3 b1
 refine(rwidth_any _ _ P Q G H (HG.out.ext hE) hF).mono ?_
 rw[←Hz.out]
 rintro e w1 ⟨rfl,hU1⟩
 go_wp2_with fail
 refine(rbytes_any _ x 1000000 z _ (hV.ext (hE.trans hU1)) hFx (by omega) hbx (by omega)).mono ?_
 rintro e w2 ⟨A9,c9,rfl,hl9,hO9,hU9⟩
 have hEE:=(hE.trans hU1).trans hU9
 have hO:=hO9.mono (B':=w.heap.size) (hE.trans hU1).size
 clear hO9
 go_wp2_with fail
 go_ret
 exact⟨A9,c9,rfl,hO,hEE⟩
set_option maxRecDepth 100000 in
set_option maxHeartbeats 1000000 in
theorem rgbytes_any (vx:Value) (x:Nat) (h:RGrpV w v P Q G H) (hV:RefV w vx x) (hF:blen P≤1000000) (hFx:blen x≤1000000) (hbx:bytelen x≤byteSz P):Calls Tryz.prog 70 #[v,vx] w (RetS w (byteSz P) (toB x (byteSz P))):=by
 obtain⟨A1,l1,c1,A2,l2,c2,A3,l3,c3,A4,l4,c4,rfl,h1,h2,h3,h4⟩:=h
 obtain⟨A5,l5,c5,xs,rfl, -⟩:=hV.open_
 have hG:RGrpV w (.agg #[.slice A1 l1 c1,.slice A2 l2 c2,.slice A3 l3 c3,.slice A4 l4 c4]) P Q G H:=⟨A1,l1,c1,A2,l2,c2,A3,l3,c3,A4,l4,c4,rfl,h1,h2,h3,h4⟩
 have hsz:byteSz P≤1000000:=by unfold byteSz;omega
 have HG:=hide hG
 obtain⟨z,hz⟩:∃z,z=byteSz P:=⟨_,rfl⟩
 rw[←hz]at hbx hsz ⊢
 have Hz:=hide hz
 clear hz hG h1 h2 h3 h4
 go_enter Tryz.func70,Tryz.ntmps70
 have b1:Blk (w.alloc (.cells #[.slice A1 l1 c1,.slice A2 l2 c2,.slice A3 l3 c3,.slice A4 l4 c4] 30)) w.heap.size 30 #[.slice A1 l1 c1,.slice A2 l2 c2,.slice A3 l3 c3,.slice A4 l4 c4]:=Blk.new _ _ _
 have q0:=b1.at 0 rfl
 have q1:=b1.at 1 rfl
 have q2:=b1.at 2 rfl
 have q3:=b1.at 3 rfl
 have hE:Ext w (w.alloc (.cells #[.slice A1 l1 c1,.slice A2 l2 c2,.slice A3 l3 c3,.slice A4 l4 c4] 30)):=(Upd.refl _ w).alloc _
 go_wp2_with fail
 clear q0 q1 q2 q3 b1
 refine(rsize_any _ _ P Q G H (HG.out.ext hE) hF).mono ?_
 rw[←Hz.out]
 rintro e w1 ⟨rfl,hU1⟩
 go_wp2_with fail
 refine(rbytes_any _ x 1000000 z _ (hV.ext (hE.trans hU1)) hFx (by omega) hbx (by omega)).mono ?_
 rintro e w2 ⟨A9,c9,rfl,hl9,hO9,hU9⟩
 have hEE:=(hE.trans hU1).trans hU9
 have hO:=hO9.mono (B':=w.heap.size) (hE.trans hU1).size
 clear hO9
 go_wp2_with fail
 go_ret
 exact⟨A9,c9,rfl,hO,hEE⟩
end
end Go.Proofs.YtdohmikoafkniaaGreat
namespace Go.Proofs.YtdohmikoafkniaaGreat
set_option linter.unusedSimpArgs false
set_option linter.unusedVariables false
open Go.RowKit
open Nt Sha Strm
attribute [local go_sem] steady steadyUpon Cls same_cell anyW
attribute [local irreducible] wpHead wpTree wpHeadR Sha.sum chalOf bxO bxS keyB
set_option maxRecDepth 100000 in
set_option maxHeartbeats 1000000 in
theorem lrfour_any (m:Nat) (w:World) (hm:m≤1048576):Calls Tryz.prog 144 #[.int .i64 (m:Int)] w (RetS w 4 (fourB m)):=by
 go_enter Tryz.func144,Tryz.ntmps144
 go_wp2_with fail
 go_ret
 refine⟨some ⟨w.heap.size,0,none⟩,4,rfl,?_,(Upd.refl _ _).alloc _⟩
 rw[fourB_cells m hm]
 exact Own.lit by8 w 5 (fourB m) (Nat.le_refl _) (show(4:Nat)≤maxLen by unfold maxLen;decide)
set_option maxRecDepth 100000 in
set_option maxHeartbeats 1000000 in
theorem lrside_any (w:World) (m:Nat) (hm:m≤1048576):Calls Tryz.prog 114 #[.int .i64 (m:Int)] w (RetS w 8 (sideB m)):=by
 have hc1:=fun w=>Lib.run_convert_bytes_const (P:=Tryz.prog) w 23 5 #[.int .u8 115,.int .u8 104,.int .u8 111,.int .u8 119] 4 4 Tryz.under_bs Tryz.under8
 have hEa:Ext w (w.alloc (.cells #[.int .u8 115,.int .u8 104,.int .u8 111,.int .u8 119] 5 (4,5))):=(Upd.refl _ _).alloc _
 have hS:Pt.ok (w.alloc (.cells #[.int .u8 115,.int .u8 104,.int .u8 111,.int .u8 119] 5 (4,5))) ⟨some ⟨w.heap.size,0,none⟩,4,4,showB⟩:=⟨Sl.mark by8 w 5 (4,5) showB,rfl,Nat.le_refl _,by simp[maxLen]⟩
 have HS:=hide hS
 have HE:=hide hEa
 clear hS hEa
 go_enter Tryz.func114,Tryz.ntmps114
 go_wp2_with fail
 refine(lrfour_any m _ hm).mono ?_
 rintro e w1 ⟨A1,c1,rfl,hO1,hU1⟩
 have hp1:=hide (Own.mpt hO1 (rfl:(fourB m).length=4))
 clear hO1
 go_wp2_with fail
 refine name_c (fun W hW=>?_)
 have h1W:Ext w1 W:=by rw[hW];exact(Upd.refl _ _).alloc _
 have hPs:Pts W (some ⟨w1.heap.size,0,none⟩) [⟨some ⟨w.heap.size,0,none⟩,4,4,showB⟩,⟨A1,4,c1,fourB m⟩]:=by
  refine⟨by rw[hW];exact Sl.new Pt.val w1 23 _,fun i hi=>?_⟩
  match i,hi with
  | 0,_=>exact HS.out.ext (hU1.trans h1W)
  | 1,_=>exact hp1.out.ext h1W
 have hfl:flat [⟨some ⟨w.heap.size,0,none⟩,4,4,showB⟩,⟨A1,4,c1,fourB m⟩]=sideB m:=by unfold flat sideB;simp only[List.flatMap_cons,List.flatMap_nil,List.append_nil]
 have hE1:=HE.out.trans (hU1.trans h1W)
 clear hW
 refine(join_any _ 2 2 _ 8 W hPs rfl (by rw[hfl];rfl) (by omega) (by unfold maxLen;omega)).mono ?_
 rw[hfl]
 rintro e w2 ⟨A2,c2,rfl,hO2,hU2⟩
 have hG:=hE1.trans hU2
 have hO:=hO2.mono (B':=w.heap.size) hE1.size
 clear hPs hfl hO2
 go_wp2_with fail
 go_ret
 exact⟨A2,c2,rfl,hO,hG⟩
section
variable (P Q G H : Nat) (w : World) (vg vs : Value)
end
end Go.Proofs.YtdohmikoafkniaaGreat
