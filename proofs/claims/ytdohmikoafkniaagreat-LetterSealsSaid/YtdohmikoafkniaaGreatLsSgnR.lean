/- Signatures of the document, walked. -/
import Derived.Test.YtdohmikoafkniaaGreatLsSgnP
import Derived.Test.YtdohmikoafkniaaGreatLsGrpV
namespace Go.Proofs.YtdohmikoafkniaaGreat
set_option linter.unusedSimpArgs false
set_option linter.unusedVariables false
open Go.RowKit
open Nt Sha
attribute [local go_sem] steady steadyUpon Cls same_cell anyW
attribute [local irreducible] wpHead wpTree wpHeadR sum
section
variable (k : Nat) (w : World) (v : Value) (P Q G H : Nat)
set_option maxRecDepth 100000 in
set_option maxHeartbeats 1000000 in
theorem rwidth_any (h:RGrpV w v P Q G H) (hF:blen Q≤1000000):Calls Tryz.prog 106 #[v] w fun e w'=>e=.returned (.int .i64 (byteSz Q:Nat))∧Ext w w':=by
  obtain⟨A1,l1,c1,A2,l2,c2,A3,l3,c3,A4,l4,c4,rfl,h1,h2,h3,h4⟩:=h
  have hlen:=h2.len
  have hF':=hF
  rw[←hlen]at hF'
  have hLb:=byteSz_int Q
  rw[←hlen]at hLb
  obtain⟨z,hz⟩:∃z,z=byteSz Q:=⟨_,rfl⟩
  rw[←hz]at hLb ⊢
  clear hlen hz
  go_enter Tryz.func106,Tryz.ntmps106
  have b1:Blk (w.alloc (.cells #[.slice A1 l1 c1,.slice A2 l2 c2,.slice A3 l3 c3,.slice A4 l4 c4] 30)) w.heap.size 30 #[.slice A1 l1 c1,.slice A2 l2 c2,.slice A3 l3 c3,.slice A4 l4 c4]:=Blk.new _ _ _
  have q:=b1.at 1 rfl
  go_wp2_with fail
  go_ret
  exact⟨congrArg (fun x=>Ending.returned (.int .i64 x)) hLb,(Upd.refl _ w).alloc _⟩
set_option maxRecDepth 100000 in
set_option maxHeartbeats 1000000 in
theorem rsize_any (h:RGrpV w v P Q G H) (hF:blen P≤1000000):Calls Tryz.prog 134 #[v] w fun e w'=>e=.returned (.int .i64 (byteSz P:Nat))∧Ext w w':=by
  obtain⟨A1,l1,c1,A2,l2,c2,A3,l3,c3,A4,l4,c4,rfl,h1,h2,h3,h4⟩:=h
  have hlen:=h1.len
  have hF':=hF
  rw[←hlen]at hF'
  have hLb:=byteSz_int P
  rw[←hlen]at hLb
  obtain⟨z,hz⟩:∃z,z=byteSz P:=⟨_,rfl⟩
  rw[←hz]at hLb ⊢
  clear hlen hz
  go_enter Tryz.func134,Tryz.ntmps134
  have b1:Blk (w.alloc (.cells #[.slice A1 l1 c1,.slice A2 l2 c2,.slice A3 l3 c3,.slice A4 l4 c4] 30)) w.heap.size 30 #[.slice A1 l1 c1,.slice A2 l2 c2,.slice A3 l3 c3,.slice A4 l4 c4]:=Blk.new _ _ _
  have q:=b1.at 0 rfl
  go_wp2_with fail
  go_ret
  exact⟨congrArg (fun x=>Ending.returned (.int .i64 x)) hLb,(Upd.refl _ w).alloc _⟩
set_option maxRecDepth 100000 in
set_option maxHeartbeats 1000000 in
theorem rfixed_any (vx:Value) (x:Nat) (h:RGrpV w v P Q G H) (hV:RefV w vx x) (hF:blen Q≤1000000) (hFx:blen x≤1000000) (hbx:bytelen x≤byteSz Q):Calls Tryz.prog 68 #[v,vx] w (RetS w (byteSz Q) (toB x (byteSz Q))):=by
 obtain⟨A1,l1,c1,A2,l2,c2,A3,l3,c3,A4,l4,c4,rfl,h1,h2,h3,h4⟩:=h
 obtain⟨A5,l5,c5,xs,rfl, -⟩:=hV.open_
 have hG:RGrpV w (.agg #[.slice A1 l1 c1,.slice A2 l2 c2,.slice A3 l3 c3,.slice A4 l4 c4]) P Q G H:=⟨A1,l1,c1,A2,l2,c2,A3,l3,c3,A4,l4,c4,rfl,h1,h2,h3,h4⟩
 have hsz:byteSz Q≤1000000:=by unfold byteSz;omega
 have HG:=hide hG
 obtain⟨z,hz⟩:∃z,z=byteSz Q:=⟨_,rfl⟩
 rw[←hz]at hbx hsz ⊢
 have Hz:=hide hz
 clear hz hG h1 h2 h3 h4
 go_enter Tryz.func68,Tryz.ntmps68
 have b1:Blk (w.alloc (.cells #[.slice A1 l1 c1,.slice A2 l2 c2,.slice A3 l3 c3,.slice A4 l4 c4] 30)) w.heap.size 30 #[.slice A1 l1 c1,.slice A2 l2 c2,.slice A3 l3 c3,.slice A4 l4 c4]:=Blk.new _ _ _
 have q0:=b1.at 0 rfl
 have q1:=b1.at 1 rfl
 have q2:=b1.at 2 rfl
 have q3:=b1.at 3 rfl
 have hE:Ext w (w.alloc (.cells #[.slice A1 l1 c1,.slice A2 l2 c2,.slice A3 l3 c3,.slice A4 l4 c4] 30)):=(Upd.refl _ w).alloc _
 go_wp2_with fail
 clear q0 q1 q2 q3 b1
 refine(rwidth_any _ _ P Q G H (HG.out.ext hE) hF).mono ?_
 rw[←Hz.out]
 rintro e w1 ⟨rfl,hU1⟩
 go_wp2_with fail
 refine(rbytes_any _ x 1000000 z _ (hV.ext (hE.trans hU1)) hFx (by omega) hbx (by omega)).mono ?_
 rintro e w2 ⟨A9,c9,rfl,hl9,hO9,hU9⟩
 have hEE:=(hE.trans hU1).trans hU9
 have hO:=hO9.mono (B':=w.heap.size) (hE.trans hU1).size
 clear hO9
 go_wp2_with fail
 go_ret
 exact⟨A9,c9,rfl,hO,hEE⟩
set_option maxRecDepth 100000 in
set_option maxHeartbeats 1000000 in
theorem rgbytes_any (vx:Value) (x:Nat) (h:RGrpV w v P Q G H) (hV:RefV w vx x) (hF:blen P≤1000000) (hFx:blen x≤1000000) (hbx:bytelen x≤byteSz P):Calls Tryz.prog 70 #[v,vx] w (RetS w (byteSz P) (toB x (byteSz P))):=by
 obtain⟨A1,l1,c1,A2,l2,c2,A3,l3,c3,A4,l4,c4,rfl,h1,h2,h3,h4⟩:=h
 obtain⟨A5,l5,c5,xs,rfl, -⟩:=hV.open_
 have hG:RGrpV w (.agg #[.slice A1 l1 c1,.slice A2 l2 c2,.slice A3 l3 c3,.slice A4 l4 c4]) P Q G H:=⟨A1,l1,c1,A2,l2,c2,A3,l3,c3,A4,l4,c4,rfl,h1,h2,h3,h4⟩
 have hsz:byteSz P≤1000000:=by unfold byteSz;omega
 have HG:=hide hG
 obtain⟨z,hz⟩:∃z,z=byteSz P:=⟨_,rfl⟩
 rw[←hz]at hbx hsz ⊢
 have Hz:=hide hz
 clear hz hG h1 h2 h3 h4
 go_enter Tryz.func70,Tryz.ntmps70
 have b1:Blk (w.alloc (.cells #[.slice A1 l1 c1,.slice A2 l2 c2,.slice A3 l3 c3,.slice A4 l4 c4] 30)) w.heap.size 30 #[.slice A1 l1 c1,.slice A2 l2 c2,.slice A3 l3 c3,.slice A4 l4 c4]:=Blk.new _ _ _
 have q0:=b1.at 0 rfl
 have q1:=b1.at 1 rfl
 have q2:=b1.at 2 rfl
 have q3:=b1.at 3 rfl
 have hE:Ext w (w.alloc (.cells #[.slice A1 l1 c1,.slice A2 l2 c2,.slice A3 l3 c3,.slice A4 l4 c4] 30)):=(Upd.refl _ w).alloc _
 go_wp2_with fail
 clear q0 q1 q2 q3 b1
 refine(rsize_any _ _ P Q G H (HG.out.ext hE) hF).mono ?_
 rw[←Hz.out]
 rintro e w1 ⟨rfl,hU1⟩
 go_wp2_with fail
 refine(rbytes_any _ x 1000000 z _ (hV.ext (hE.trans hU1)) hFx (by omega) hbx (by omega)).mono ?_
 rintro e w2 ⟨A9,c9,rfl,hl9,hO9,hU9⟩
 have hEE:=(hE.trans hU1).trans hU9
 have hO:=hO9.mono (B':=w.heap.size) (hE.trans hU1).size
 clear hO9
 go_wp2_with fail
 go_ret
 exact⟨A9,c9,rfl,hO,hEE⟩
end
end Go.Proofs.YtdohmikoafkniaaGreat
