/- Equal exponents: the document's Answer, the law's claim as the document has it, walked. -/
import Derived.Test.YtdohmikoafkniaaGreatLpDlqE
import Derived.Test.YtdohmikoafkniaaGreatLpLetR
namespace Go.Proofs.YtdohmikoafkniaaGreat
set_option linter.unusedSimpArgs false
set_option linter.unusedVariables false
open Go.RowKit
open Nt Sha
attribute [local go_sem] steady steadyUpon Cls same_cell anyW
attribute [local irreducible] wpHead wpTree wpHeadR sum chalOf
def RCl (w:World) (v:Value) (a b y z:Nat):Prop:=∃A0 l0 c0 A1 l1 c1 A2 l2 c2 A3 l3 c3,v=.agg #[.slice A0 l0 c0,.slice A1 l1 c1,.slice A2 l2 c2,.slice A3 l3 c3]∧RefV w (.slice A0 l0 c0) a∧RefV w (.slice A1 l1 c1) b∧RefV w (.slice A2 l2 c2) y∧RefV w (.slice A3 l3 c3) z
section
variable (k : Nat) (w : World) (vg : Value) (P Q G H : Nat)
set_option maxRecDepth 100000 in
set_option maxHeartbeats 4000000 in
theorem rans_any (vc vu vv:Value) (a b y z un vn:Nat) (A:Option Addr) (n c:Nat) (side:List (BitVec 8)) (h:RGrpV w vg P Q G H) (hC:RCl w vc a b y z) (hVu:RefV w vu un) (hVv:RefV w vv vn) (hM:Pt.ok w ⟨A,n,c,side⟩) (hmem:[a,b,y,z,un,vn].all (memB P Q)=true) (hFP:blen P≤k) (hFQ:blen Q≤k) (hk8:256≤k) (hk:k≤1000000) (hn:n≤10000000) (hQ0:0<Q):
 Calls Tryz.prog 74 #[vg,vc,vu,vv,.slice A n c] w (RetR w (ansN P Q [a,b,y,z,un,vn] side)):=by
 have hG:=h
 have hall:=hmem
 simp only[List.all_cons,List.all_nil,Bool.and_true,Bool.and_eq_true]at hmem
 obtain⟨ha,hb,hy,hz,hun,hvn⟩:=hmem
 obtain⟨A1,l1,c1,A2,l2,c2,A3,l3,c3,A4,l4,c4,rfl, -⟩:=h
 obtain⟨C0,k0,d0,C1,k1,d1,C2,k2,d2,C3,k3,d3,rfl,hC0,hC1,hC2,hC3⟩:=hC
 obtain⟨A5,l5,c5,xs,rfl, -⟩:=hVu.open_
 obtain⟨A6,l6,c6,ys,rfl, -⟩:=hVv.open_
 have hszP:byteSz P≤1000000:=by unfold byteSz;omega
 have hfa:blen a≤1000000:=Nat.le_trans (blen_mono (Nat.le_of_lt (memB_lt ha).2.1)) (by omega)
 have hba:bytelen a≤byteSz P:=byteSz_mono (Nat.le_of_lt (memB_lt ha).2.1)
 have ma:memBy P Q a=toB a (byteSz P):=by unfold memBy;rw[if_pos ha]
 have hfb:blen b≤1000000:=Nat.le_trans (blen_mono (Nat.le_of_lt (memB_lt hb).2.1)) (by omega)
 have hbb:bytelen b≤byteSz P:=byteSz_mono (Nat.le_of_lt (memB_lt hb).2.1)
 have mb:memBy P Q b=toB b (byteSz P):=by unfold memBy;rw[if_pos hb]
 have hfy:blen y≤1000000:=Nat.le_trans (blen_mono (Nat.le_of_lt (memB_lt hy).2.1)) (by omega)
 have hby:bytelen y≤byteSz P:=byteSz_mono (Nat.le_of_lt (memB_lt hy).2.1)
 have my:memBy P Q y=toB y (byteSz P):=by unfold memBy;rw[if_pos hy]
 have hfz:blen z≤1000000:=Nat.le_trans (blen_mono (Nat.le_of_lt (memB_lt hz).2.1)) (by omega)
 have hbz:bytelen z≤byteSz P:=byteSz_mono (Nat.le_of_lt (memB_lt hz).2.1)
 have mz:memBy P Q z=toB z (byteSz P):=by unfold memBy;rw[if_pos hz]
 have hfun:blen un≤1000000:=Nat.le_trans (blen_mono (Nat.le_of_lt (memB_lt hun).2.1)) (by omega)
 have hbun:bytelen un≤byteSz P:=byteSz_mono (Nat.le_of_lt (memB_lt hun).2.1)
 have mun:memBy P Q un=toB un (byteSz P):=by unfold memBy;rw[if_pos hun]
 have hfvn:blen vn≤1000000:=Nat.le_trans (blen_mono (Nat.le_of_lt (memB_lt hvn).2.1)) (by omega)
 have hbvn:bytelen vn≤byteSz P:=byteSz_mono (Nat.le_of_lt (memB_lt hvn).2.1)
 have mvn:memBy P Q vn=toB vn (byteSz P):=by unfold memBy;rw[if_pos hvn]
 obtain⟨zz,hzz⟩:∃z,z=byteSz P:=⟨_,rfl⟩
 rw[←hzz]at hszP
 obtain⟨Ba,hBa⟩:∃t_,t_=toB a (byteSz P):=⟨_,rfl⟩
 have La:Ba.length=zz:=by rw[hBa,hzz,toB_length]
 obtain⟨Bb,hBb⟩:∃t_,t_=toB b (byteSz P):=⟨_,rfl⟩
 have Lb:Bb.length=zz:=by rw[hBb,hzz,toB_length]
 obtain⟨By,hBy⟩:∃t_,t_=toB y (byteSz P):=⟨_,rfl⟩
 have Ly:By.length=zz:=by rw[hBy,hzz,toB_length]
 obtain⟨Bz,hBz⟩:∃t_,t_=toB z (byteSz P):=⟨_,rfl⟩
 have Lz:Bz.length=zz:=by rw[hBz,hzz,toB_length]
 obtain⟨Bun,hBun⟩:∃t_,t_=toB un (byteSz P):=⟨_,rfl⟩
 have Lun:Bun.length=zz:=by rw[hBun,hzz,toB_length]
 obtain⟨Bvn,hBvn⟩:∃t_,t_=toB vn (byteSz P):=⟨_,rfl⟩
 have Lvn:Bvn.length=zz:=by rw[hBvn,hzz,toB_length]
 have hans:ansN P Q [a,b,y,z,un,vn] side=chalOf [dlqB,Ba,Bb,By,Bz,Bun,Bvn,side] Q:=by
  unfold ansN
  rw[if_pos hall]
  simp only[List.map_cons,List.map_nil,List.cons_append,List.nil_append,ma,←hBa,mb,←hBb,my,←hBy,mz,←hBz,mun,←hBun,mvn,←hBvn]
 rw[hans]
 have Hz:=hide hzz
 have HM:=hide hM
 have HG:=hide hG
 have HLa:=hide La
 have HBa:=hide hBa
 have HLb:=hide Lb
 have HBb:=hide hBb
 have HLy:=hide Ly
 have HBy:=hide hBy
 have HLz:=hide Lz
 have HBz:=hide hBz
 have HLun:=hide Lun
 have HBun:=hide hBun
 have HLvn:=hide Lvn
 have HBvn:=hide hBvn
 have hml:side.length=n:=hM.2.1
 have Hml:=hide hml
 clear hzz hM hG hml hall hans ma La hBa mb Lb hBb my Ly hBy mz Lz hBz mun Lun hBun mvn Lvn hBvn
 go_enter Tryz.func74,Tryz.ntmps74
 go_wp2_with fail
 refine name_w (fun X hX=>?_)
 have b5:Blk X w.heap.size 30 #[.slice A1 l1 c1,.slice A2 l2 c2,.slice A3 l3 c3,.slice A4 l4 c4]:=by rw[hX];exact(Blk.new _ _ _).ext ((Upd.refl _ _).alloc _)
 have b6:Blk X (w.heap.size+1) 48 #[.slice C0 k0 d0,.slice C1 k1 d1,.slice C2 k2 d2,.slice C3 k3 d3]:=by rw[hX];exact Blk.new_at (by simp)
 have hEX:Ext w X:=by rw[hX];exact((Upd.refl _ _).alloc _).alloc _
 clear hX
 have y0:=b5.at 0 rfl
 have y1:=b5.at 1 rfl
 have y2:=b5.at 2 rfl
 have y3:=b5.at 3 rfl
 have x0:=b6.at 0 rfl
 have x1:=b6.at 1 rfl
 have x2:=b6.at 2 rfl
 have x3:=b6.at 3 rfl
 refine wp_region_monor (RF X.heap.size) (RF.refl _) (RF.trans _) 28 (fun i=>([MR.eq _ (.agg #[.slice A1 l1 c1,.slice A2 l2 c2,.slice A3 l3 c3,.slice A4 l4 c4]),litF X.heap.size 5 4 dlqB,bytesF X.heap.size (4) (dlqB),MR.eq _ (.agg #[.slice A1 l1 c1,.slice A2 l2 c2,.slice A3 l3 c3,.slice A4 l4 c4]),MR.eq _ (.pointer (some ⟨(w.heap.size+1),0,none⟩)),MR.eq _ (.slice C0 k0 d0),bytesF X.heap.size (zz) (Ba),MR.eq _ (.agg #[.slice A1 l1 c1,.slice A2 l2 c2,.slice A3 l3 c3,.slice A4 l4 c4]),MR.eq _ (.pointer (some ⟨(w.heap.size+1),1,none⟩)),MR.eq _ (.slice C1 k1 d1),bytesF X.heap.size (zz) (Bb),MR.eq _ (.agg #[.slice A1 l1 c1,.slice A2 l2 c2,.slice A3 l3 c3,.slice A4 l4 c4]),MR.eq _ (.pointer (some ⟨(w.heap.size+1),2,none⟩)),MR.eq _ (.slice C2 k2 d2),bytesF X.heap.size (zz) (By),MR.eq _ (.agg #[.slice A1 l1 c1,.slice A2 l2 c2,.slice A3 l3 c3,.slice A4 l4 c4]),MR.eq _ (.pointer (some ⟨(w.heap.size+1),3,none⟩)),MR.eq _ (.slice C3 k3 d3),bytesF X.heap.size (zz) (Bz),MR.eq _ (.agg #[.slice A1 l1 c1,.slice A2 l2 c2,.slice A3 l3 c3,.slice A4 l4 c4]),MR.eq _ (.slice A5 l5 c5),bytesF X.heap.size (zz) (Bun),MR.eq _ (.agg #[.slice A1 l1 c1,.slice A2 l2 c2,.slice A3 l3 c3,.slice A4 l4 c4]),MR.eq _ (.slice A6 l6 c6),bytesF X.heap.size (zz) (Bvn),MR.eq _ (.slice A n c),bssF X.heap.size 8 [dlqB,Ba,Bb,By,Bz,Bun,Bvn,side],refF X.heap.size (chalOf [dlqB,Ba,Bb,By,Bz,Bun,Bvn,side] Q)]:List (MR (RF X.heap.size))).getD i (MR.eq _ undef)) (by kernel_rfl) (by kernel_rfl) ?_ ?_
 · intro i hi
   match i,hi with
   | 0,_=>
     intro u wx o ho hE hw
     injection (ho:some _=some o)with ho
     subst ho
     have hEx:Ext X wx:=(hE.ext (Nat.le_refl _)).undrew
     simp only[fr,dstOf]
     go_simp
     have z0:=hEx.cellv y0
     have z1:=hEx.cellv y1
     have z2:=hEx.cellv y2
     have z3:=hEx.cellv y3
     go_wp2
     first | exact RF.refl _ _ | exact⟨trivial,RF.refl _ _⟩ | exact⟨_,rfl,RF.refl _ _,rfl⟩ | exact⟨RF.refl _ _,rfl⟩
   | 1,_=>
     intro u wx o ho hE hw
     injection (ho:some _=some o)with ho
     subst ho
     have hEx:Ext X wx:=(hE.ext (Nat.le_refl _)).undrew
     simp only[fr,dstOf]
     go_simp
     go_wp2
     first | exact⟨_,rfl,RF.of ((Upd.refl _ _).alloc _),litF_mk ⟨_,_,rfl,hEx.size,rfl,heap_alloc_new wx _⟩⟩ | exact⟨RF.of ((Upd.refl _ _).alloc _),litF_mk ⟨_,_,rfl,hEx.size,rfl,heap_alloc_new wx _⟩⟩
   | 2,_=>
     intro u wx o ho hE hw
     injection (ho:some _=some o)with ho
     subst ho
     have hEx:Ext X wx:=(hE.ext (Nat.le_refl _)).undrew
     obtain⟨g1,aM1,f1,hg1,aN1,hV1⟩:=litF_out (hw 1 (by omega) (by kernel_rfl))
     simp only[fr,dstOf]
     go_simp
     have hcv:=run_convert_mark (P:=Tryz.prog) (n:=4) (c:=4) hV1 Tryz.under_bs Tryz.under8
     go_wp2
     first | exact⟨_,rfl,RF.freeze hg1,bytesF_mk ⟨_,_,rfl,rfl,Nat.le_refl _,by simp[maxLen],(RF.freeze hg1).sl (lit_bytes hV1)⟩⟩ | exact⟨RF.freeze hg1,bytesF_mk ⟨_,_,rfl,rfl,Nat.le_refl _,by simp[maxLen],(RF.freeze hg1).sl (lit_bytes hV1)⟩⟩
   | 3,_=>
     intro u wx o ho hE hw
     injection (ho:some _=some o)with ho
     subst ho
     have hEx:Ext X wx:=(hE.ext (Nat.le_refl _)).undrew
     simp only[fr,dstOf]
     go_simp
     have z0:=hEx.cellv y0
     have z1:=hEx.cellv y1
     have z2:=hEx.cellv y2
     have z3:=hEx.cellv y3
     go_wp2
     first | exact RF.refl _ _ | exact⟨trivial,RF.refl _ _⟩ | exact⟨_,rfl,RF.refl _ _,rfl⟩ | exact⟨RF.refl _ _,rfl⟩
   | 4,_=>
     intro u wx o ho hE hw
     injection (ho:some _=some o)with ho
     subst ho
     have hEx:Ext X wx:=(hE.ext (Nat.le_refl _)).undrew
     simp only[fr,dstOf]
     go_simp
     go_wp2
     first | exact RF.refl _ _ | exact⟨_,rfl,RF.refl _ _,rfl⟩ | exact⟨RF.refl _ _,rfl⟩
   | 5,_=>
     intro u wx o ho hE hw
     injection (ho:some _=some o)with ho
     subst ho
     have hEx:Ext X wx:=(hE.ext (Nat.le_refl _)).undrew
     have f4:u 4=.pointer (some ⟨(w.heap.size+1),0,none⟩):=hw 4 (by omega) (by kernel_rfl)
     have cx:=hEx.cellv x0
     simp only[fr,dstOf]
     go_simp
     go_wp2
     first | exact RF.refl _ _ | exact⟨_,rfl,RF.refl _ _,rfl⟩ | exact⟨RF.refl _ _,rfl⟩
   | 6,_=>
     intro u wx o ho hE hw
     injection (ho:some _=some o)with ho
     subst ho
     have hEx:Ext X wx:=(hE.ext (Nat.le_refl _)).undrew
     have f3:u 3=.agg #[.slice A1 l1 c1,.slice A2 l2 c2,.slice A3 l3 c3,.slice A4 l4 c4]:=hw 3 (by omega) (by kernel_rfl)
     have f5:u 5=.slice C0 k0 d0:=hw 5 (by omega) (by kernel_rfl)
     simp only[fr,dstOf]
     go_simp
     go_wp2_with fail
     refine(rgbytes_any _ _ P Q G H _ a (HG.out.ext (hEX.trans hEx)) (hC0.ext (hEX.trans hEx)) (by omega) hfa hba).mono ?_
     rintro e wn ⟨A9,c9,rfl,hO,hU⟩
     go_wp2_with fail
     first | exact⟨_,rfl,(RF.of hU),bytesF_mk ⟨_,_,by rw[Hz.out],Own.pt (by rw[HBa.out];exact hO) HLa.out⟩⟩ | exact⟨(RF.of hU),bytesF_mk ⟨_,_,by rw[Hz.out],Own.pt (by rw[HBa.out];exact hO) HLa.out⟩⟩
   | 7,_=>
     intro u wx o ho hE hw
     injection (ho:some _=some o)with ho
     subst ho
     have hEx:Ext X wx:=(hE.ext (Nat.le_refl _)).undrew
     simp only[fr,dstOf]
     go_simp
     have z0:=hEx.cellv y0
     have z1:=hEx.cellv y1
     have z2:=hEx.cellv y2
     have z3:=hEx.cellv y3
     go_wp2
     first | exact RF.refl _ _ | exact⟨trivial,RF.refl _ _⟩ | exact⟨_,rfl,RF.refl _ _,rfl⟩ | exact⟨RF.refl _ _,rfl⟩
   | 8,_=>
     intro u wx o ho hE hw
     injection (ho:some _=some o)with ho
     subst ho
     have hEx:Ext X wx:=(hE.ext (Nat.le_refl _)).undrew
     simp only[fr,dstOf]
     go_simp
     go_wp2
     first | exact RF.refl _ _ | exact⟨_,rfl,RF.refl _ _,rfl⟩ | exact⟨RF.refl _ _,rfl⟩
   | 9,_=>
     intro u wx o ho hE hw
     injection (ho:some _=some o)with ho
     subst ho
     have hEx:Ext X wx:=(hE.ext (Nat.le_refl _)).undrew
     have f8:u 8=.pointer (some ⟨(w.heap.size+1),1,none⟩):=hw 8 (by omega) (by kernel_rfl)
     have cx:=hEx.cellv x1
     simp only[fr,dstOf]
     go_simp
     go_wp2
     first | exact RF.refl _ _ | exact⟨_,rfl,RF.refl _ _,rfl⟩ | exact⟨RF.refl _ _,rfl⟩
   | 10,_=>
     intro u wx o ho hE hw
     injection (ho:some _=some o)with ho
     subst ho
     have hEx:Ext X wx:=(hE.ext (Nat.le_refl _)).undrew
     have f7:u 7=.agg #[.slice A1 l1 c1,.slice A2 l2 c2,.slice A3 l3 c3,.slice A4 l4 c4]:=hw 7 (by omega) (by kernel_rfl)
     have f9:u 9=.slice C1 k1 d1:=hw 9 (by omega) (by kernel_rfl)
     simp only[fr,dstOf]
     go_simp
     go_wp2_with fail
     refine(rgbytes_any _ _ P Q G H _ b (HG.out.ext (hEX.trans hEx)) (hC1.ext (hEX.trans hEx)) (by omega) hfb hbb).mono ?_
     rintro e wn ⟨A9,c9,rfl,hO,hU⟩
     go_wp2_with fail
     first | exact⟨_,rfl,(RF.of hU),bytesF_mk ⟨_,_,by rw[Hz.out],Own.pt (by rw[HBb.out];exact hO) HLb.out⟩⟩ | exact⟨(RF.of hU),bytesF_mk ⟨_,_,by rw[Hz.out],Own.pt (by rw[HBb.out];exact hO) HLb.out⟩⟩
   | 11,_=>
     intro u wx o ho hE hw
     injection (ho:some _=some o)with ho
     subst ho
     have hEx:Ext X wx:=(hE.ext (Nat.le_refl _)).undrew
     simp only[fr,dstOf]
     go_simp
     have z0:=hEx.cellv y0
     have z1:=hEx.cellv y1
     have z2:=hEx.cellv y2
     have z3:=hEx.cellv y3
     go_wp2
     first | exact RF.refl _ _ | exact⟨trivial,RF.refl _ _⟩ | exact⟨_,rfl,RF.refl _ _,rfl⟩ | exact⟨RF.refl _ _,rfl⟩
   | 12,_=>
     intro u wx o ho hE hw
     injection (ho:some _=some o)with ho
     subst ho
     have hEx:Ext X wx:=(hE.ext (Nat.le_refl _)).undrew
     simp only[fr,dstOf]
     go_simp
     go_wp2
     first | exact RF.refl _ _ | exact⟨_,rfl,RF.refl _ _,rfl⟩ | exact⟨RF.refl _ _,rfl⟩
   | 13,_=>
     intro u wx o ho hE hw
     injection (ho:some _=some o)with ho
     subst ho
     have hEx:Ext X wx:=(hE.ext (Nat.le_refl _)).undrew
     have f12:u 12=.pointer (some ⟨(w.heap.size+1),2,none⟩):=hw 12 (by omega) (by kernel_rfl)
     have cx:=hEx.cellv x2
     simp only[fr,dstOf]
     go_simp
     go_wp2
     first | exact RF.refl _ _ | exact⟨_,rfl,RF.refl _ _,rfl⟩ | exact⟨RF.refl _ _,rfl⟩
   | 14,_=>
     intro u wx o ho hE hw
     injection (ho:some _=some o)with ho
     subst ho
     have hEx:Ext X wx:=(hE.ext (Nat.le_refl _)).undrew
     have f11:u 11=.agg #[.slice A1 l1 c1,.slice A2 l2 c2,.slice A3 l3 c3,.slice A4 l4 c4]:=hw 11 (by omega) (by kernel_rfl)
     have f13:u 13=.slice C2 k2 d2:=hw 13 (by omega) (by kernel_rfl)
     simp only[fr,dstOf]
     go_simp
     go_wp2_with fail
     refine(rgbytes_any _ _ P Q G H _ y (HG.out.ext (hEX.trans hEx)) (hC2.ext (hEX.trans hEx)) (by omega) hfy hby).mono ?_
     rintro e wn ⟨A9,c9,rfl,hO,hU⟩
     go_wp2_with fail
     first | exact⟨_,rfl,(RF.of hU),bytesF_mk ⟨_,_,by rw[Hz.out],Own.pt (by rw[HBy.out];exact hO) HLy.out⟩⟩ | exact⟨(RF.of hU),bytesF_mk ⟨_,_,by rw[Hz.out],Own.pt (by rw[HBy.out];exact hO) HLy.out⟩⟩
   | 15,_=>
     intro u wx o ho hE hw
     injection (ho:some _=some o)with ho
     subst ho
     have hEx:Ext X wx:=(hE.ext (Nat.le_refl _)).undrew
     simp only[fr,dstOf]
     go_simp
     have z0:=hEx.cellv y0
     have z1:=hEx.cellv y1
     have z2:=hEx.cellv y2
     have z3:=hEx.cellv y3
     go_wp2
     first | exact RF.refl _ _ | exact⟨trivial,RF.refl _ _⟩ | exact⟨_,rfl,RF.refl _ _,rfl⟩ | exact⟨RF.refl _ _,rfl⟩
   | 16,_=>
     intro u wx o ho hE hw
     injection (ho:some _=some o)with ho
     subst ho
     have hEx:Ext X wx:=(hE.ext (Nat.le_refl _)).undrew
     simp only[fr,dstOf]
     go_simp
     go_wp2
     first | exact RF.refl _ _ | exact⟨_,rfl,RF.refl _ _,rfl⟩ | exact⟨RF.refl _ _,rfl⟩
   | 17,_=>
     intro u wx o ho hE hw
     injection (ho:some _=some o)with ho
     subst ho
     have hEx:Ext X wx:=(hE.ext (Nat.le_refl _)).undrew
     have f16:u 16=.pointer (some ⟨(w.heap.size+1),3,none⟩):=hw 16 (by omega) (by kernel_rfl)
     have cx:=hEx.cellv x3
     simp only[fr,dstOf]
     go_simp
     go_wp2
     first | exact RF.refl _ _ | exact⟨_,rfl,RF.refl _ _,rfl⟩ | exact⟨RF.refl _ _,rfl⟩
   | 18,_=>
     intro u wx o ho hE hw
     injection (ho:some _=some o)with ho
     subst ho
     have hEx:Ext X wx:=(hE.ext (Nat.le_refl _)).undrew
     have f15:u 15=.agg #[.slice A1 l1 c1,.slice A2 l2 c2,.slice A3 l3 c3,.slice A4 l4 c4]:=hw 15 (by omega) (by kernel_rfl)
     have f17:u 17=.slice C3 k3 d3:=hw 17 (by omega) (by kernel_rfl)
     simp only[fr,dstOf]
     go_simp
     go_wp2_with fail
     refine(rgbytes_any _ _ P Q G H _ z (HG.out.ext (hEX.trans hEx)) (hC3.ext (hEX.trans hEx)) (by omega) hfz hbz).mono ?_
     rintro e wn ⟨A9,c9,rfl,hO,hU⟩
     go_wp2_with fail
     first | exact⟨_,rfl,(RF.of hU),bytesF_mk ⟨_,_,by rw[Hz.out],Own.pt (by rw[HBz.out];exact hO) HLz.out⟩⟩ | exact⟨(RF.of hU),bytesF_mk ⟨_,_,by rw[Hz.out],Own.pt (by rw[HBz.out];exact hO) HLz.out⟩⟩
   | 19,_=>
     intro u wx o ho hE hw
     injection (ho:some _=some o)with ho
     subst ho
     have hEx:Ext X wx:=(hE.ext (Nat.le_refl _)).undrew
     simp only[fr,dstOf]
     go_simp
     have z0:=hEx.cellv y0
     have z1:=hEx.cellv y1
     have z2:=hEx.cellv y2
     have z3:=hEx.cellv y3
     go_wp2
     first | exact RF.refl _ _ | exact⟨trivial,RF.refl _ _⟩ | exact⟨_,rfl,RF.refl _ _,rfl⟩ | exact⟨RF.refl _ _,rfl⟩
   | 20,_=>
     intro u wx o ho hE hw
     injection (ho:some _=some o)with ho
     subst ho
     have hEx:Ext X wx:=(hE.ext (Nat.le_refl _)).undrew
     simp only[fr,dstOf]
     go_simp
     go_wp2
     first | exact RF.refl _ _ | exact⟨_,rfl,RF.refl _ _,rfl⟩ | exact⟨RF.refl _ _,rfl⟩
   | 21,_=>
     intro u wx o ho hE hw
     injection (ho:some _=some o)with ho
     subst ho
     have hEx:Ext X wx:=(hE.ext (Nat.le_refl _)).undrew
     have f19:u 19=.agg #[.slice A1 l1 c1,.slice A2 l2 c2,.slice A3 l3 c3,.slice A4 l4 c4]:=hw 19 (by omega) (by kernel_rfl)
     have f20:u 20=.slice A5 l5 c5:=hw 20 (by omega) (by kernel_rfl)
     simp only[fr,dstOf]
     go_simp
     go_wp2_with fail
     refine(rgbytes_any _ _ P Q G H _ un (HG.out.ext (hEX.trans hEx)) (hVu.ext (hEX.trans hEx)) (by omega) hfun hbun).mono ?_
     rintro e wn ⟨A9,c9,rfl,hO,hU⟩
     go_wp2_with fail
     first | exact⟨_,rfl,(RF.of hU),bytesF_mk ⟨_,_,by rw[Hz.out],Own.pt (by rw[HBun.out];exact hO) HLun.out⟩⟩ | exact⟨(RF.of hU),bytesF_mk ⟨_,_,by rw[Hz.out],Own.pt (by rw[HBun.out];exact hO) HLun.out⟩⟩
   | 22,_=>
     intro u wx o ho hE hw
     injection (ho:some _=some o)with ho
     subst ho
     have hEx:Ext X wx:=(hE.ext (Nat.le_refl _)).undrew
     simp only[fr,dstOf]
     go_simp
     have z0:=hEx.cellv y0
     have z1:=hEx.cellv y1
     have z2:=hEx.cellv y2
     have z3:=hEx.cellv y3
     go_wp2
     first | exact RF.refl _ _ | exact⟨trivial,RF.refl _ _⟩ | exact⟨_,rfl,RF.refl _ _,rfl⟩ | exact⟨RF.refl _ _,rfl⟩
   | 23,_=>
     intro u wx o ho hE hw
     injection (ho:some _=some o)with ho
     subst ho
     have hEx:Ext X wx:=(hE.ext (Nat.le_refl _)).undrew
     simp only[fr,dstOf]
     go_simp
     go_wp2
     first | exact RF.refl _ _ | exact⟨_,rfl,RF.refl _ _,rfl⟩ | exact⟨RF.refl _ _,rfl⟩
   | 24,_=>
     intro u wx o ho hE hw
     injection (ho:some _=some o)with ho
     subst ho
     have hEx:Ext X wx:=(hE.ext (Nat.le_refl _)).undrew
     have f22:u 22=.agg #[.slice A1 l1 c1,.slice A2 l2 c2,.slice A3 l3 c3,.slice A4 l4 c4]:=hw 22 (by omega) (by kernel_rfl)
     have f23:u 23=.slice A6 l6 c6:=hw 23 (by omega) (by kernel_rfl)
     simp only[fr,dstOf]
     go_simp
     go_wp2_with fail
     refine(rgbytes_any _ _ P Q G H _ vn (HG.out.ext (hEX.trans hEx)) (hVv.ext (hEX.trans hEx)) (by omega) hfvn hbvn).mono ?_
     rintro e wn ⟨A9,c9,rfl,hO,hU⟩
     go_wp2_with fail
     first | exact⟨_,rfl,(RF.of hU),bytesF_mk ⟨_,_,by rw[Hz.out],Own.pt (by rw[HBvn.out];exact hO) HLvn.out⟩⟩ | exact⟨(RF.of hU),bytesF_mk ⟨_,_,by rw[Hz.out],Own.pt (by rw[HBvn.out];exact hO) HLvn.out⟩⟩
   | 25,_=>
     intro u wx o ho hE hw
     injection (ho:some _=some o)with ho
     subst ho
     have hEx:Ext X wx:=(hE.ext (Nat.le_refl _)).undrew
     simp only[fr,dstOf]
     go_simp
     go_wp2
     first | exact RF.refl _ _ | exact⟨_,rfl,RF.refl _ _,rfl⟩ | exact⟨RF.refl _ _,rfl⟩
   | 26,_=>
     intro u wx o ho hE hw
     injection (ho:some _=some o)with ho
     subst ho
     have hEx:Ext X wx:=(hE.ext (Nat.le_refl _)).undrew
     have hQ2:=bytesF_out (hw 2 (by omega) (by kernel_rfl))
     cases hQ2;rename_i aA2 hQ2
     cases hQ2;rename_i aC2 hQ2
     have f2:=hQ2.1
     have aN2:=hQ2.2.1
     have aX2:=hQ2.2.2.1
     have aM2:=hQ2.2.2.2.1
     have hV2:=hQ2.2.2.2.2
     clear hQ2
     have hQ6:=bytesF_out (hw 6 (by omega) (by kernel_rfl))
     cases hQ6;rename_i aA6 hQ6
     cases hQ6;rename_i aC6 hQ6
     have f6:=hQ6.1
     have aN6:=hQ6.2.1
     have aX6:=hQ6.2.2.1
     have aM6:=hQ6.2.2.2.1
     have hV6:=hQ6.2.2.2.2
     clear hQ6
     have hQ10:=bytesF_out (hw 10 (by omega) (by kernel_rfl))
     cases hQ10;rename_i aA10 hQ10
     cases hQ10;rename_i aC10 hQ10
     have f10:=hQ10.1
     have aN10:=hQ10.2.1
     have aX10:=hQ10.2.2.1
     have aM10:=hQ10.2.2.2.1
     have hV10:=hQ10.2.2.2.2
     clear hQ10
     have hQ14:=bytesF_out (hw 14 (by omega) (by kernel_rfl))
     cases hQ14;rename_i aA14 hQ14
     cases hQ14;rename_i aC14 hQ14
     have f14:=hQ14.1
     have aN14:=hQ14.2.1
     have aX14:=hQ14.2.2.1
     have aM14:=hQ14.2.2.2.1
     have hV14:=hQ14.2.2.2.2
     clear hQ14
     have hQ18:=bytesF_out (hw 18 (by omega) (by kernel_rfl))
     cases hQ18;rename_i aA18 hQ18
     cases hQ18;rename_i aC18 hQ18
     have f18:=hQ18.1
     have aN18:=hQ18.2.1
     have aX18:=hQ18.2.2.1
     have aM18:=hQ18.2.2.2.1
     have hV18:=hQ18.2.2.2.2
     clear hQ18
     have hQ21:=bytesF_out (hw 21 (by omega) (by kernel_rfl))
     cases hQ21;rename_i aA21 hQ21
     cases hQ21;rename_i aC21 hQ21
     have f21:=hQ21.1
     have aN21:=hQ21.2.1
     have aX21:=hQ21.2.2.1
     have aM21:=hQ21.2.2.2.1
     have hV21:=hQ21.2.2.2.2
     clear hQ21
     have hQ24:=bytesF_out (hw 24 (by omega) (by kernel_rfl))
     cases hQ24;rename_i aA24 hQ24
     cases hQ24;rename_i aC24 hQ24
     have f24:=hQ24.1
     have aN24:=hQ24.2.1
     have aX24:=hQ24.2.2.1
     have aM24:=hQ24.2.2.2.1
     have hV24:=hQ24.2.2.2.2
     clear hQ24
     have f25:u 25=.slice A n c:=hw 25 (by omega) (by kernel_rfl)
     simp only[fr,dstOf]
     go_simp
     go_wp2
     first | exact⟨_,rfl,RF.of ((Upd.refl _ _).alloc _),bssF_mk ⟨_,_,[⟨aA2,4,aC2,dlqB⟩,⟨aA6,zz,aC6,Ba⟩,⟨aA10,zz,aC10,Bb⟩,⟨aA14,zz,aC14,By⟩,⟨aA18,zz,aC18,Bz⟩,⟨aA21,zz,aC21,Bun⟩,⟨aA24,zz,aC24,Bvn⟩,⟨A,n,c,side⟩],rfl,rfl,rfl,(by intro p hp;simp only[List.mem_cons,List.mem_nil_iff,or_false]at hp;rcases hp with rfl | rfl | rfl | rfl | rfl | rfl | rfl | rfl;exact rfl;exact HLa.out;exact HLb.out;exact HLy.out;exact HLz.out;exact HLun.out;exact HLvn.out;exact Hml.out),Pts.lit wx _ _ (by intro p hp;simp only[List.mem_cons,List.mem_nil_iff,or_false]at hp;rcases hp with rfl | rfl | rfl | rfl | rfl | rfl | rfl | rfl;exact⟨hV2,aN2,aX2,aM2⟩;exact⟨hV6,aN6,aX6,aM6⟩;exact⟨hV10,aN10,aX10,aM10⟩;exact⟨hV14,aN14,aX14,aM14⟩;exact⟨hV18,aN18,aX18,aM18⟩;exact⟨hV21,aN21,aX21,aM21⟩;exact⟨hV24,aN24,aX24,aM24⟩;exact HM.out.ext (hEX.trans hEx))⟩⟩ | exact⟨RF.of ((Upd.refl _ _).alloc _),bssF_mk ⟨_,_,[⟨aA2,4,aC2,dlqB⟩,⟨aA6,zz,aC6,Ba⟩,⟨aA10,zz,aC10,Bb⟩,⟨aA14,zz,aC14,By⟩,⟨aA18,zz,aC18,Bz⟩,⟨aA21,zz,aC21,Bun⟩,⟨aA24,zz,aC24,Bvn⟩,⟨A,n,c,side⟩],rfl,rfl,rfl,(by intro p hp;simp only[List.mem_cons,List.mem_nil_iff,or_false]at hp;rcases hp with rfl | rfl | rfl | rfl | rfl | rfl | rfl | rfl;exact rfl;exact HLa.out;exact HLb.out;exact HLy.out;exact HLz.out;exact HLun.out;exact HLvn.out;exact Hml.out),Pts.lit wx _ _ (by intro p hp;simp only[List.mem_cons,List.mem_nil_iff,or_false]at hp;rcases hp with rfl | rfl | rfl | rfl | rfl | rfl | rfl | rfl;exact⟨hV2,aN2,aX2,aM2⟩;exact⟨hV6,aN6,aX6,aM6⟩;exact⟨hV10,aN10,aX10,aM10⟩;exact⟨hV14,aN14,aX14,aM14⟩;exact⟨hV18,aN18,aX18,aM18⟩;exact⟨hV21,aN21,aX21,aM21⟩;exact⟨hV24,aN24,aX24,aM24⟩;exact HM.out.ext (hEX.trans hEx))⟩⟩
   | 27,_=>
     intro u wx o ho hE hw
     injection (ho:some _=some o)with ho
     subst ho
     have hEx:Ext X wx:=(hE.ext (Nat.le_refl _)).undrew
     have f0:u 0=.agg #[.slice A1 l1 c1,.slice A2 l2 c2,.slice A3 l3 c3,.slice A4 l4 c4]:=hw 0 (by omega) (by kernel_rfl)
     obtain⟨aA26,aC26,aP26,f26,aN26,aB26,aL26,hV26⟩:=bssF_out (hw 26 (by omega) (by kernel_rfl))
     simp only[fr,dstOf]
     go_simp
     go_wp2_with fail
     refine(rChal_any _ P Q G H k aA26 8 aC26 aP26 _ (HG.out.ext (hEX.trans hEx)) hV26 aN26 (by omega) (by rw[chalB_bs aP26 aL26,aB26];simp only[chalBs,List.flatMap_cons,List.flatMap_nil,List.length_append,leK_length,List.length_nil,dlqB,List.length_cons,HLa.out,HLb.out,HLy.out,HLz.out,HLun.out,HLvn.out,Hml.out];omega) hFQ hk8 hk hQ0).mono ?_
     rintro e wn ⟨A9,l9,c9,rfl,hVn,hU⟩
     go_wp2_with fail
     first | exact⟨_,rfl,(RF.of hU),refF_mk ⟨_,_,_,rfl,by rw[←aB26,←chalN_bs aL26];exact hVn⟩⟩ | exact⟨(RF.of hU),refF_mk ⟨_,_,_,rfl,by rw[←aB26,←chalN_bs aL26];exact hVn⟩⟩
   | k+28,h=>exact absurd h (by omega)
 · intro u wx hE hJ
   have hEx:Ext X wx:=(hE.ext (Nat.le_refl _)).undrew
   have f0:u 0=.agg #[.slice A1 l1 c1,.slice A2 l2 c2,.slice A3 l3 c3,.slice A4 l4 c4]:=hJ 0 (by omega)
   obtain⟨g1,aM1,f1,hg1,aN1,hV1⟩:=litF_out (hJ 1 (by omega))
   have hQ2:=bytesF_out (hJ 2 (by omega))
   cases hQ2;rename_i aA2 hQ2
   cases hQ2;rename_i aC2 hQ2
   have f2:=hQ2.1
   have aN2:=hQ2.2.1
   have aX2:=hQ2.2.2.1
   have aM2:=hQ2.2.2.2.1
   have hV2:=hQ2.2.2.2.2
   clear hQ2
   have f3:u 3=.agg #[.slice A1 l1 c1,.slice A2 l2 c2,.slice A3 l3 c3,.slice A4 l4 c4]:=hJ 3 (by omega)
   have f4:u 4=.pointer (some ⟨(w.heap.size+1),0,none⟩):=hJ 4 (by omega)
   have f5:u 5=.slice C0 k0 d0:=hJ 5 (by omega)
   have hQ6:=bytesF_out (hJ 6 (by omega))
   cases hQ6;rename_i aA6 hQ6
   cases hQ6;rename_i aC6 hQ6
   have f6:=hQ6.1
   have aN6:=hQ6.2.1
   have aX6:=hQ6.2.2.1
   have aM6:=hQ6.2.2.2.1
   have hV6:=hQ6.2.2.2.2
   clear hQ6
   have f7:u 7=.agg #[.slice A1 l1 c1,.slice A2 l2 c2,.slice A3 l3 c3,.slice A4 l4 c4]:=hJ 7 (by omega)
   have f8:u 8=.pointer (some ⟨(w.heap.size+1),1,none⟩):=hJ 8 (by omega)
   have f9:u 9=.slice C1 k1 d1:=hJ 9 (by omega)
   have hQ10:=bytesF_out (hJ 10 (by omega))
   cases hQ10;rename_i aA10 hQ10
   cases hQ10;rename_i aC10 hQ10
   have f10:=hQ10.1
   have aN10:=hQ10.2.1
   have aX10:=hQ10.2.2.1
   have aM10:=hQ10.2.2.2.1
   have hV10:=hQ10.2.2.2.2
   clear hQ10
   have f11:u 11=.agg #[.slice A1 l1 c1,.slice A2 l2 c2,.slice A3 l3 c3,.slice A4 l4 c4]:=hJ 11 (by omega)
   have f12:u 12=.pointer (some ⟨(w.heap.size+1),2,none⟩):=hJ 12 (by omega)
   have f13:u 13=.slice C2 k2 d2:=hJ 13 (by omega)
   have hQ14:=bytesF_out (hJ 14 (by omega))
   cases hQ14;rename_i aA14 hQ14
   cases hQ14;rename_i aC14 hQ14
   have f14:=hQ14.1
   have aN14:=hQ14.2.1
   have aX14:=hQ14.2.2.1
   have aM14:=hQ14.2.2.2.1
   have hV14:=hQ14.2.2.2.2
   clear hQ14
   have f15:u 15=.agg #[.slice A1 l1 c1,.slice A2 l2 c2,.slice A3 l3 c3,.slice A4 l4 c4]:=hJ 15 (by omega)
   have f16:u 16=.pointer (some ⟨(w.heap.size+1),3,none⟩):=hJ 16 (by omega)
   have f17:u 17=.slice C3 k3 d3:=hJ 17 (by omega)
   have hQ18:=bytesF_out (hJ 18 (by omega))
   cases hQ18;rename_i aA18 hQ18
   cases hQ18;rename_i aC18 hQ18
   have f18:=hQ18.1
   have aN18:=hQ18.2.1
   have aX18:=hQ18.2.2.1
   have aM18:=hQ18.2.2.2.1
   have hV18:=hQ18.2.2.2.2
   clear hQ18
   have f19:u 19=.agg #[.slice A1 l1 c1,.slice A2 l2 c2,.slice A3 l3 c3,.slice A4 l4 c4]:=hJ 19 (by omega)
   have f20:u 20=.slice A5 l5 c5:=hJ 20 (by omega)
   have hQ21:=bytesF_out (hJ 21 (by omega))
   cases hQ21;rename_i aA21 hQ21
   cases hQ21;rename_i aC21 hQ21
   have f21:=hQ21.1
   have aN21:=hQ21.2.1
   have aX21:=hQ21.2.2.1
   have aM21:=hQ21.2.2.2.1
   have hV21:=hQ21.2.2.2.2
   clear hQ21
   have f22:u 22=.agg #[.slice A1 l1 c1,.slice A2 l2 c2,.slice A3 l3 c3,.slice A4 l4 c4]:=hJ 22 (by omega)
   have f23:u 23=.slice A6 l6 c6:=hJ 23 (by omega)
   have hQ24:=bytesF_out (hJ 24 (by omega))
   cases hQ24;rename_i aA24 hQ24
   cases hQ24;rename_i aC24 hQ24
   have f24:=hQ24.1
   have aN24:=hQ24.2.1
   have aX24:=hQ24.2.2.1
   have aM24:=hQ24.2.2.2.1
   have hV24:=hQ24.2.2.2.2
   clear hQ24
   have f25:u 25=.slice A n c:=hJ 25 (by omega)
   obtain⟨aA26,aC26,aP26,f26,aN26,aB26,aL26,hV26⟩:=bssF_out (hJ 26 (by omega))
   have hQ27:=refF_out (hJ 27 (by omega))
   cases hQ27;rename_i aA27 hQ27
   cases hQ27;rename_i aL27 hQ27
   cases hQ27;rename_i aC27 hQ27
   have f27:=hQ27.1
   have hV27:=hQ27.2
   clear hQ27
   clear hJ
   simp only[fr,dstOf]
   go_simp
   try simp only[List.drop_succ_cons,List.drop_zero]
   go_wp2_with fail
   go_ret
   exact⟨_,_,_,rfl,hV27,hEX.trans hEx⟩
end
end Go.Proofs.YtdohmikoafkniaaGreat
