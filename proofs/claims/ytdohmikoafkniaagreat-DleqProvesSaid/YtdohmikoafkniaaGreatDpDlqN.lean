/- Equal exponents without a group, walked. -/
import Derived.Test.YtdohmikoafkniaaGreatDpDlqE
namespace Go.Proofs.YtdohmikoafkniaaGreat
set_option linter.unusedSimpArgs false
set_option linter.unusedVariables false
open Go.RowKit
open Nt Sha
attribute [local go_sem] steady steadyUpon Cls same_cell
attribute [local irreducible] wpHead wpTree sum chalOf ansN
section
variable (w : World)
set_option maxRecDepth 100000 in
set_option maxHeartbeats 1000000 in
theorem dmembers_nil (A:Option Addr) (n c:Nat) (ns:List Nat) (hL:NatL w A ns) (hn:ns.length=n) (h1:1≤n):
 Calls Tryz.prog 54 #[.pointer none,.slice A n c] w fun e w'=>e=.returned (.bool false)∧Ext w w':=by
 have HL:=hide hL
 have Hn:=hide hn
 clear hL hn
 go_enter Tryz.func54,Tryz.ntmps54
 go_wp2_with fail
 go_loopw [9,6] (fun i v wx=>i=.int .i64 ((0:Nat):Int)∧wx=w) (fun i _ _=>0)
 case atStart=>exact⟨rfl,rfl⟩
 case round=>
  obtain⟨rfl,rfl⟩:=hrel
  have hlti:((0:Nat):Int)<(n:Int):=by omega
  obtain⟨b,o,B1,m1,d1,rfl,q0,hVj⟩:=HL.out.at (i:=0) (by rw[Hn.out];omega)
  rw[Nat.add_zero]at q0
  have q1:=(Box.new wr 34 (.slice B1 m1 d1)).cell
  go_wp2_with fail
  clear q1
  refine name_c (fun V hV=>?_)
  have hEV:Ext wr V:=by rw[hV];exact(Upd.refl _ _).alloc _
  clear hV
  refine(gMember_none V (.slice B1 m1 d1) rfl).mono ?_
  rintro e v1 ⟨rfl,hU1⟩
  have hE1:=hEV.trans hU1
  go_wp2_with fail
  go_ret
  exact⟨rfl,hE1⟩
set_option maxRecDepth 100000 in
set_option maxHeartbeats 4000000 in
theorem dprove_nil (A0 A1 A2 AS:Option Addr) (l0 c0 l1 c1 l2 c2 n c:Nat) (a b:Nat) (h0:NatV w (.agg #[.slice A0 l0 c0]) a) (h1:NatV w (.agg #[.slice A1 l1 c1]) b):
 Calls Tryz.prog 12 #[.pointer none,.agg #[.slice A0 l0 c0],.agg #[.slice A1 l1 c1],.agg #[.slice A2 l2 c2],.slice AS n c] w (RetPn w):=by
 go_enter Tryz.func12,Tryz.ntmps12
 go_wp2_with fail
 refine name_w (fun X hX=>?_)
 have b6:Box X w.heap.size 34 (.slice A0 l0 c0):=by rw[hX];exact(((Box.new _ _ _).alloc _).alloc _).alloc _
 have b7:Box X (w.heap.size+1) 34 (.slice A1 l1 c1):=by rw[hX];exact((Box.new_at (by simp)).alloc _).alloc _
 have b10:Blk X (w.heap.size+1+1+1) 37 #[.slice none 0 0,.slice none 0 0,.slice none 0 0,.slice none 0 0]:=by rw[hX];exact Blk.new_at (by simp)
 have hE:Ext w X:=by rw[hX];exact((((Upd.refl _ w).alloc _).alloc _).alloc _).alloc _
 clear hX
 have hXd:Ext X X.drew:=(Upd.refl _ _).drew
 have hED:=hE.trans hXd
 have y0:=fun y:Wd (Ext X.drew)=>y.ok.cellv b6.drew.cell
 have y1:=fun y:Wd (Ext X.drew)=>y.ok.cellv b7.drew.cell
 refine wp_region_plan (Ext _) 13 [(false,0),(false,1),(false,2),(true,3),(true,4),(false,5),(false,6),(false,7),(false,8),(true,9),(true,10),(true,11),(false,12)] (by kernel_rfl) (by kernel_rfl) (Upd.refl _ _) (fun hne=>?_)
 repeat (refine head_q rfl (fun K hK=>?_);have hK2:=hide hK;clear hK;go_simp;refine hK2.out _ ?_;clear hK2 K)
 refine head_l rfl ?_
 go_wp2_with fail
 refine⟨Cls (Ext _),fun _ h=>h,⟨⟨_,(Upd.refl _ _).alloc _⟩,rfl⟩,?_⟩
 repeat (refine head_q rfl (fun K hK=>?_);have hK2:=hide hK;clear hK;go_simp;refine hK2.out _ ?_;clear hK2 K)
 have hX1:Ext X.drew (X.drew.alloc (.cells #[.slice A0 l0 c0,.slice A1 l1 c1] 34)):=(Upd.refl _ _).alloc _
 refine head_l rfl ?_
 go_wp2_with (go_at_call 54;go_must (refine(dmembers_nil _ _ 2 2 [a,b] (NTwo.mk 34 (h0.ext hED) (h1.ext hED)).natL rfl (by omega)).mono ?_);rintro e w1 ⟨rfl,hU1⟩;replace hU1:=hX1.trans hU1)
 refine⟨Cls (Ext _),fun _ h=>h,⟨⟨_,hU1⟩,rfl⟩,?_⟩
 repeat (refine head_q rfl (fun K hK=>?_);have hK2:=hide hK;clear hK;go_simp;refine hK2.out _ ?_;clear hK2 K)
 refine head_l rfl ?_
 go_wp2_with fail
 refine⟨Cls (Ext _),fun _ h=>h,⟨⟨_,hU1⟩,rfl⟩,?_⟩
 repeat (refine head_q rfl (fun K hK=>?_);have hK2:=hide hK;clear hK;go_simp;refine hK2.out _ ?_;clear hK2 K)
 refine head_l rfl ?_
 go_wp2_with fail
 refine⟨Cls (Ext _),fun _ h=>h,⟨⟨_,hU1⟩,rfl⟩,?_⟩
 repeat (refine head_q rfl (fun K hK=>?_);have hK2:=hide hK;clear hK;go_simp;refine hK2.out _ ?_;clear hK2 K)
 refine head_l rfl ?_
 go_wp2_with fail
 refine⟨Cls (Ext _),fun _ h=>h,⟨⟨_,hU1⟩,rfl⟩,?_⟩
 repeat (refine head_q rfl (fun K hK=>?_);have hK2:=hide hK;clear hK;go_simp;refine hK2.out _ ?_;clear hK2 K)
 have hEg:=hXd.trans hU1
 clear y0 y1
 refine head_nil ?_
 try simp only[List.drop_succ_cons,List.drop_zero]
 have b10e:=b10.ext hEg
 have x0:=b10e.at 0 rfl
 have x1:=b10e.at 1 rfl
 have x2:=b10e.at 2 rfl
 have x3:=b10e.at 3 rfl
 have z0:=b10e.frozen 0
 have z1:=b10e.frozen 1
 have z2:=b10e.frozen 2
 have z3:=b10e.frozen 3
 have hBF:=blk4 b10e (.slice none 0 0) (.slice none 0 0) (.slice none 0 0) (.slice none 0 0)
 have hEF:=ext4 (hE.trans hEg) (show w.heap.size≤w.heap.size+1+1+1 by omega) (.slice none 0 0) (.slice none 0 0) (.slice none 0 0) (.slice none 0 0)
 go_wp2_with fail
 have q0:=hBF.at 0 rfl
 have q1:=hBF.at 1 rfl
 have q2:=hBF.at 2 rfl
 have q3:=hBF.at 3 rfl
 refine bodyPost_ret (v:=.tuple #[.agg #[.slice none 0 0,.slice none 0 0,.slice none 0 0,.slice none 0 0],.slice none 0 0,.int .i64 1]) ?_ rfl ⟨rfl,hEF⟩
 simp[results,Tryz.results12,go_sem,q0,q1,q2,q3]
end
end Go.Proofs.YtdohmikoafkniaaGreat
