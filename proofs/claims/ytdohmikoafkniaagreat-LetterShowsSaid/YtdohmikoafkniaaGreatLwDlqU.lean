/- Equal exponents: the document's Prove, walked. -/
import Derived.Test.YtdohmikoafkniaaGreatLwDlqR
import Derived.Test.YtdohmikoafkniaaGreatLwDlqD
import Derived.Test.YtdohmikoafkniaaGreatLwSgnS
set_option maxRecDepth 100000
set_option maxHeartbeats 8000000
namespace Go.Proofs.YtdohmikoafkniaaGreat
set_option linter.unusedSimpArgs false
set_option linter.unusedVariables false
open Go.RowKit
open Nt Sha
attribute [local go_sem] steady steadyUpon Cls same_cell anyW
attribute [local irreducible] wpHead wpTree wpHeadR sum chalOf ansN
def CutRc (V:World) (a b y z:Nat) (s:Value) (wx:World):Prop:=
 ∃g E0 m0 d0 E1 m1 d1 E2 m2 d2 E3 m3 d3,s=.pointer (some ⟨g,0,none⟩)∧Blk wx g 48 #[.slice E0 m0 d0,.slice E1 m1 d1,.slice E2 m2 d2,.slice E3 m3 d3]∧RefV wx (.slice E0 m0 d0) a∧RefV wx (.slice E1 m1 d1) b∧RefV wx (.slice E2 m2 d2) y∧RefV wx (.slice E3 m3 d3) z∧Ext V wx
def RetRp (w:World) (N a b y z:Nat) (prf:List (BitVec 8)) (e:Ending) (w':World):Prop:=
 ∃v A c,e=.returned (.tuple #[v,.slice A N c])∧RCl w' v a b y z∧Pt.ok w' ⟨A,N,c,prf⟩∧Ext w w'
theorem flat_bs :∀ps:List Pt,flat ps=(ps.map (·.bs)).flatten
 | []=>rfl
 | p :: r=>by
   have h1:=flat_bs r
   unfold flat at h1 ⊢
   rw[List.flatMap_cons,List.map_cons,List.flatten_cons,h1]
section
variable (w : World) (vg : Value) (P Q G H : Nat)
theorem rprove_any (va vb vx:Value) (a b x:Nat) (A:Option Addr) (n c:Nat) (side:List (BitVec 8)) (h:RGrpV w vg P Q G H) (hVa:RefV w va a) (hVb:RefV w vb b) (hVx:RefV w vx x) (hM:Pt.ok w ⟨A,n,c,side⟩) (ha:memB P Q a=true) (hb:memB P Q b=true) (hP2:2≤P) (hQ64:64<Q) (hFP:blen P≤1024) (hFQ:blen Q≤1024) (hn:n≤100000) (hxQ:x<Q):
 Calls Tryz.prog 19 #[vg,va,vb,vx,.slice A n c] w (RetRp w (2*byteSz Q) a b (a^x % P) (b^x % P) (pvB P Q a b x side)):=by
 have hG:=h
 obtain⟨A1,l1,c1,A2,l2,c2,A3,l3,c3,A4,l4,c4,rfl,hg1,hg2,hg3,hg4⟩:=h
 obtain⟨A5,l5,c5,xs5,rfl, -⟩:=hVa.open_
 obtain⟨A6,l6,c6,xs6,rfl, -⟩:=hVb.open_
 obtain⟨A7,l7,c7,xs7,rfl, -⟩:=hVx.open_
 have HG:=hide hG
 have HM:=hide hM
 have Ha:=hide ha
 have Hb:=hide hb
 have hfa:blen a≤1024:=Nat.le_trans (blen_mono (Nat.le_of_lt (memB_lt ha).2.1)) hFP
 have hfb:blen b≤1024:=Nat.le_trans (blen_mono (Nat.le_of_lt (memB_lt hb).2.1)) hFP
 have hfx:blen x≤1024:=Nat.le_trans (blen_mono (Nat.le_of_lt hxQ)) hFQ
 have hbx:bytelen x≤byteSz Q:=byteSz_mono (Nat.le_of_lt hxQ)
 have hba:bytelen a≤byteSz P:=byteSz_mono (Nat.le_of_lt (memB_lt ha).2.1)
 have hbb:bytelen b≤byteSz P:=byteSz_mono (Nat.le_of_lt (memB_lt hb).2.1)
 have ma:memBy P Q a=toB a (byteSz P):=by unfold memBy;rw[if_pos ha]
 have mb:memBy P Q b=toB b (byteSz P):=by unfold memBy;rw[if_pos hb]
 have hszP:byteSz P≤1000:=by unfold byteSz;omega
 obtain⟨z,hz⟩:∃z,z=byteSz Q:=⟨_,rfl⟩
 obtain⟨N,hN⟩:∃N,N=2*byteSz Q:=⟨_,rfl⟩
 have hzm:z≤1000:=by rw[hz];unfold byteSz;omega
 have hNm:N≤2000:=by omega
 obtain⟨zp,hzp⟩:∃z,z=byteSz P:=⟨_,rfl⟩
 rw[←hzp]at hszP ma mb
 obtain⟨yn,hyn⟩:∃y,y=a^x % P:=⟨_,rfl⟩
 obtain⟨zn,hzn⟩:∃y,y=b^x % P:=⟨_,rfl⟩
 obtain⟨R,hR⟩:∃R,R=RetRp w N a b yn zn (pvB P Q a b x side):=⟨_,rfl⟩
 rw[←hN,←hyn,←hzn,←hR]
 have Hz:=hide hz
 have HN:=hide hN
 have HR:=hide hR
 have Hzp:=hide hzp
 have Hyn:=hide hyn
 have Hzn:=hide hzn
 have Hma:=hide ma
 have Hmb:=hide mb
 clear hz hN hR hG hM ha hb hzp hyn hzn ma mb
 go_enter Tryz.func19,Tryz.ntmps19
 go_wp2_with fail
 refine name_w (fun X hX=>?_)
 have b5:Blk X w.heap.size 30 #[.slice A1 l1 c1,.slice A2 l2 c2,.slice A3 l3 c3,.slice A4 l4 c4]:=by rw[hX];exact(Blk.new _ _ _).ext (uR_.alloc _)
 have b10:Blk X (w.heap.size+1) 48 #[.slice none 0 0,.slice none 0 0,.slice none 0 0,.slice none 0 0]:=by rw[hX];exact Blk.new_at (by simp)
 have hE:Ext w X:=by rw[hX];exact(uR_.alloc _).alloc _
 clear hX
 have hXd:Ext X X.drew:=uR_.drew
 have hED:=hE.trans hXd
 go_cut [12] (fun s12 wx=>CutRc X a b yn zn s12 wx)
 case first=>
  have y0:=fun y:Wd (Ext X.drew)=>y.ok.cellv ((b5.ext hXd).at 0 rfl)
  have y1:=fun y:Wd (Ext X.drew)=>y.ok.cellv ((b5.ext hXd).at 1 rfl)
  have y2:=fun y:Wd (Ext X.drew)=>y.ok.cellv ((b5.ext hXd).at 2 rfl)
  have y3:=fun y:Wd (Ext X.drew)=>y.ok.cellv ((b5.ext hXd).at 3 rfl)
  have hGD:=hide (HG.out.ext hED)
  have hAD:=hVa.ext hED
  have hBD:=hVb.ext hED
  have hXD:=hVx.ext hED
  have h0E:Ext X.drew X.drew:=uR_
  refine wp_region_tree (Ext X.drew) 12 (.q 0 (.q 1 (.q 2 (.q 3 (.q 4 (.q 6 (.q 7 (.q 8 (.two 5 11 (.two 9 11 (.q 10 (.l 11 .done)) (.l 9 (.q 10 .done))) (.l 5 (.l 9 (.q 10 .done)))))))))))) (by kernel_rfl) (by kernel_rfl) (uR_) (fun hne=>?_)
  repeat (refine tree_q rfl (fun K hK=>?_);go_simp;refine hK _ ?_;clear hK K)
  refine tree_two rfl rfl ?_ ?_
  · skip
    go_wp2_with (go_at_call 66;go_must (refine(rgexp_any _ _ P Q G H _ _ a x (hGD.out.ext h0E) hAD hXD (by omega) (by omega) (by omega) (by omega)).mono ?_);rw[←Hyn.out];rintro e u5 ⟨A8,l8,c8,rfl,hR8,hu5⟩;have hx5:=Upd.trans h0E hu5)
    refine⟨_,fun _ h=>h,⟨⟨_,hx5⟩,rfl⟩,?_⟩
    repeat (refine tree_q rfl (fun K hK=>?_);go_simp;refine hK _ ?_;clear hK K)
    refine tree_two rfl rfl ?_ ?_
    · skip
      go_wp2_with (go_at_call 66;go_must (refine(rgexp_any _ _ P Q G H _ _ b x (hGD.out.ext hx5) (hBD.ext hu5) (hXD.ext hu5) (by omega) (by omega) (by omega) (by omega)).mono ?_);rw[←Hzn.out];rintro e u9 ⟨A9,l9,c9,rfl,hR9,hu9⟩;have hx9:=Upd.trans hx5 hu9)
      refine⟨_,fun _ h=>h,⟨⟨_,hx9⟩,rfl⟩,?_⟩
      repeat (refine tree_q rfl (fun K hK=>?_);go_simp;refine hK _ ?_;clear hK K)
      refine tree_l rfl ?_
      go_wp2_with fail
      have haE:=Upd.alloc hx9 (.cells #[.slice none 0 0,.slice none 0 0,.slice none 0 0,.slice none 0 0] 48)
      have haB:Blk (World.alloc u9 (.cells #[.slice none 0 0,.slice none 0 0,.slice none 0 0,.slice none 0 0] 48)) u9.heap.size 48 #[.slice none 0 0,.slice none 0 0,.slice none 0 0,.slice none 0 0]:=Blk.new u9 48 #[.slice none 0 0,.slice none 0 0,.slice none 0 0,.slice none 0 0]
      have haG:X.drew.heap.size≤u9.heap.size:=Upd.size hx9
      have haX:Ext u9 (World.alloc u9 (.cells #[.slice none 0 0,.slice none 0 0,.slice none 0 0,.slice none 0 0] 48)):=uR_.alloc _
      refine⟨_,fun _ h=>h,⟨⟨_,haE⟩,rfl⟩,?_⟩
      repeat (refine tree_q rfl (fun K hK=>?_);go_simp;refine hK _ ?_;clear hK K)
      have hB4:=Blk.new u9 48 #[.slice A5 l5 c5,.slice A6 l6 c6,.slice A8 l8 c8,.slice A9 l9 c9]
      have hE4:=Upd.alloc hx9 (.cells #[.slice A5 l5 c5,.slice A6 l6 c6,.slice A8 l8 c8,.slice A9 l9 c9] 48)
      have hX4:Ext u9 (World.alloc u9 (.cells #[.slice A5 l5 c5,.slice A6 l6 c6,.slice A8 l8 c8,.slice A9 l9 c9] 48)):=uR_.alloc _
      refine tree_done ?_
      try simp only[dS_,dZ_]
      go_wp2_with fail
      go_meet
      exact⟨_,A5,l5,c5,A6,l6,c6,A8,l8,c8,A9,l9,c9,rfl,hB4,(((hAD.ext hu5).ext hu9).ext hX4),(((hBD.ext hu5).ext hu9).ext hX4),((hR8.ext hu9).ext hX4),(hR9.ext hX4),hXd.trans hE4⟩
    · skip
      go_wp2_with fail
      have haE:=Upd.alloc hx5 (.cells #[.slice none 0 0,.slice none 0 0,.slice none 0 0,.slice none 0 0] 48)
      have haB:Blk (World.alloc u5 (.cells #[.slice none 0 0,.slice none 0 0,.slice none 0 0,.slice none 0 0] 48)) u5.heap.size 48 #[.slice none 0 0,.slice none 0 0,.slice none 0 0,.slice none 0 0]:=Blk.new u5 48 #[.slice none 0 0,.slice none 0 0,.slice none 0 0,.slice none 0 0]
      have haG:X.drew.heap.size≤u5.heap.size:=Upd.size hx5
      have haX:Ext u5 (World.alloc u5 (.cells #[.slice none 0 0,.slice none 0 0,.slice none 0 0,.slice none 0 0] 48)):=uR_.alloc _
      refine⟨_,fun _ h=>h,⟨⟨_,haE⟩,rfl⟩,?_⟩
      repeat (refine tree_q rfl (fun K hK=>?_);go_simp;refine hK _ ?_;clear hK K)
      refine tree_l rfl ?_
      go_wp2_with (go_at_call 66;go_must (refine(rgexp_any _ _ P Q G H _ _ b x (hGD.out.ext haE) ((hBD.ext hu5).ext haX) ((hXD.ext hu5).ext haX) (by omega) (by omega) (by omega) (by omega)).mono ?_);rw[←Hzn.out];rintro e u9 ⟨A9,l9,c9,rfl,hR9,hu9⟩;have hx9:=Upd.trans haE hu9)
      refine⟨_,fun _ h=>h,⟨⟨_,hx9⟩,rfl⟩,?_⟩
      repeat (refine tree_q rfl (fun K hK=>?_);go_simp;refine hK _ ?_;clear hK K)
      have y0:=(haB.ext hu9).at 0 rfl
      have x0:=(haB.ext hu9).frozen 0
      have y1:=(haB.ext hu9).at 1 rfl
      have x1:=(haB.ext hu9).frozen 1
      have y2:=(haB.ext hu9).at 2 rfl
      have x2:=(haB.ext hu9).frozen 2
      have y3:=(haB.ext hu9).at 3 rfl
      have x3:=(haB.ext hu9).frozen 3
      have hB4:=blk4 (haB.ext hu9) (.slice A5 l5 c5) (.slice A6 l6 c6) (.slice A8 l8 c8) (.slice A9 l9 c9)
      have hE4:=ext4 hx9 haG (.slice A5 l5 c5) (.slice A6 l6 c6) (.slice A8 l8 c8) (.slice A9 l9 c9)
      refine tree_done ?_
      try simp only[dS_,dZ_]
      go_wp2_with fail
      go_meet
      exact⟨_,A5,l5,c5,A6,l6,c6,A8,l8,c8,A9,l9,c9,rfl,hB4,(ref4 (b0:=A5) (m0:=l5) (d0:=c5) (b1:=A6) (m1:=l6) (d1:=c6) (b2:=A8) (m2:=l8) (d2:=c8) (b3:=A9) (m3:=l9) (d3:=c9) (((hAD.ext hu5).ext haX).ext hu9) (haB.ext hu9)),(ref4 (b0:=A5) (m0:=l5) (d0:=c5) (b1:=A6) (m1:=l6) (d1:=c6) (b2:=A8) (m2:=l8) (d2:=c8) (b3:=A9) (m3:=l9) (d3:=c9) (((hBD.ext hu5).ext haX).ext hu9) (haB.ext hu9)),(ref4 (b0:=A5) (m0:=l5) (d0:=c5) (b1:=A6) (m1:=l6) (d1:=c6) (b2:=A8) (m2:=l8) (d2:=c8) (b3:=A9) (m3:=l9) (d3:=c9) ((hR8.ext haX).ext hu9) (haB.ext hu9)),(ref4 (b0:=A5) (m0:=l5) (d0:=c5) (b1:=A6) (m1:=l6) (d1:=c6) (b2:=A8) (m2:=l8) (d2:=c8) (b3:=A9) (m3:=l9) (d3:=c9) hR9 (haB.ext hu9)),hXd.trans hE4⟩
  · skip
    go_wp2_with fail
    have haE:=Upd.alloc h0E (.cells #[.slice none 0 0,.slice none 0 0,.slice none 0 0,.slice none 0 0] 48)
    have haB:Blk (World.alloc X.drew (.cells #[.slice none 0 0,.slice none 0 0,.slice none 0 0,.slice none 0 0] 48)) X.heap.size 48 #[.slice none 0 0,.slice none 0 0,.slice none 0 0,.slice none 0 0]:=Blk.new X.drew 48 #[.slice none 0 0,.slice none 0 0,.slice none 0 0,.slice none 0 0]
    have haG:X.drew.heap.size≤X.heap.size:=Nat.le_refl _
    have haX:Ext X.drew (World.alloc X.drew (.cells #[.slice none 0 0,.slice none 0 0,.slice none 0 0,.slice none 0 0] 48)):=uR_.alloc _
    refine⟨_,fun _ h=>h,⟨⟨_,haE⟩,rfl⟩,?_⟩
    repeat (refine tree_q rfl (fun K hK=>?_);go_simp;refine hK _ ?_;clear hK K)
    refine tree_l rfl ?_
    go_wp2_with (go_at_call 66;go_must (refine(rgexp_any _ _ P Q G H _ _ a x (hGD.out.ext haE) (hAD.ext haX) (hXD.ext haX) (by omega) (by omega) (by omega) (by omega)).mono ?_);rw[←Hyn.out];rintro e u5 ⟨A8,l8,c8,rfl,hR8,hu5⟩;have hx5:=Upd.trans haE hu5)
    refine⟨_,fun _ h=>h,⟨⟨_,hx5⟩,rfl⟩,?_⟩
    repeat (refine tree_q rfl (fun K hK=>?_);go_simp;refine hK _ ?_;clear hK K)
    refine tree_l rfl ?_
    go_wp2_with (go_at_call 66;go_must (refine(rgexp_any _ _ P Q G H _ _ b x (hGD.out.ext hx5) ((hBD.ext haX).ext hu5) ((hXD.ext haX).ext hu5) (by omega) (by omega) (by omega) (by omega)).mono ?_);rw[←Hzn.out];rintro e u9 ⟨A9,l9,c9,rfl,hR9,hu9⟩;have hx9:=Upd.trans hx5 hu9)
    refine⟨_,fun _ h=>h,⟨⟨_,hx9⟩,rfl⟩,?_⟩
    repeat (refine tree_q rfl (fun K hK=>?_);go_simp;refine hK _ ?_;clear hK K)
    have y0:=((haB.ext hu5).ext hu9).at 0 rfl
    have x0:=((haB.ext hu5).ext hu9).frozen 0
    have y1:=((haB.ext hu5).ext hu9).at 1 rfl
    have x1:=((haB.ext hu5).ext hu9).frozen 1
    have y2:=((haB.ext hu5).ext hu9).at 2 rfl
    have x2:=((haB.ext hu5).ext hu9).frozen 2
    have y3:=((haB.ext hu5).ext hu9).at 3 rfl
    have x3:=((haB.ext hu5).ext hu9).frozen 3
    have hB4:=blk4 ((haB.ext hu5).ext hu9) (.slice A5 l5 c5) (.slice A6 l6 c6) (.slice A8 l8 c8) (.slice A9 l9 c9)
    have hE4:=ext4 hx9 haG (.slice A5 l5 c5) (.slice A6 l6 c6) (.slice A8 l8 c8) (.slice A9 l9 c9)
    refine tree_done ?_
    try simp only[dS_,dZ_]
    go_wp2_with fail
    go_meet
    exact⟨_,A5,l5,c5,A6,l6,c6,A8,l8,c8,A9,l9,c9,rfl,hB4,(ref4 (b0:=A5) (m0:=l5) (d0:=c5) (b1:=A6) (m1:=l6) (d1:=c6) (b2:=A8) (m2:=l8) (d2:=c8) (b3:=A9) (m3:=l9) (d3:=c9) (((hAD.ext haX).ext hu5).ext hu9) ((haB.ext hu5).ext hu9)),(ref4 (b0:=A5) (m0:=l5) (d0:=c5) (b1:=A6) (m1:=l6) (d1:=c6) (b2:=A8) (m2:=l8) (d2:=c8) (b3:=A9) (m3:=l9) (d3:=c9) (((hBD.ext haX).ext hu5).ext hu9) ((haB.ext hu5).ext hu9)),(ref4 (b0:=A5) (m0:=l5) (d0:=c5) (b1:=A6) (m1:=l6) (d1:=c6) (b2:=A8) (m2:=l8) (d2:=c8) (b3:=A9) (m3:=l9) (d3:=c9) (hR8.ext hu9) ((haB.ext hu5).ext hu9)),(ref4 (b0:=A5) (m0:=l5) (d0:=c5) (b1:=A6) (m1:=l6) (d1:=c6) (b2:=A8) (m2:=l8) (d2:=c8) (b3:=A9) (m3:=l9) (d3:=c9) hR9 ((haB.ext hu5).ext hu9)),hXd.trans hE4⟩
 case rest=>
  obtain⟨g12,E0,m0,d0,E1,m1,d1,E2,m2,d2,E3,m3,d3,rfl,b12,hC0,hC1,hC2,hC3,hX12⟩:=hcut
  have b5x:=b5.ext hX12
  have b10x:=b10.ext hX12
  have hE12:=hE.trans hX12
  clear b5 b10 hE hXd hED
  go_wp2_with fail
  refine name_w (fun Y hY=>?_)
  subst hY
  have y0:=b5x.at 0 rfl
  have y1:=b5x.at 1 rfl
  have y2:=b5x.at 2 rfl
  have y3:=b5x.at 3 rfl
  obtain⟨Bx,hBx⟩:∃t_,t_=toB x (byteSz Q):=⟨_,rfl⟩
  obtain⟨Ba,hBa⟩:∃t_,t_=toB a (byteSz P):=⟨_,rfl⟩
  obtain⟨Bb,hBb⟩:∃t_,t_=toB b (byteSz P):=⟨_,rfl⟩
  have hLx:Bx.length=z:=by rw[hBx,Hz.out,toB_length]
  have hLa:Ba.length=zp:=by rw[hBa,Hzp.out,toB_length]
  have hLb:Bb.length=zp:=by rw[hBb,Hzp.out,toB_length]
  obtain⟨M,hMe⟩:∃m,m=4+zp+zp+n:=⟨_,rfl⟩
  obtain⟨inf,hinf⟩:∃i,i=dlqB++Ba++Bb++side:=⟨_,rfl⟩
  have hLi:inf.length=M:=by rw[hinf,List.length_append,List.length_append,List.length_append,hLa,hLb,HM.out.2.1,hMe];rfl
  have hMm:M≤200000:=by omega
  obtain⟨bs,hbs⟩:∃t_,t_=Mac.expand Bx inf 64:=⟨_,rfl⟩
  have hel:bs.length=64:=by rw[hbs];exact Mac.expand_length _ _ _
  obtain⟨e0,he0⟩:∃t_,t_=ofB bs:=⟨_,rfl⟩
  have hfe:blen e0≤1024:=by rw[he0];exact Nat.le_trans (Fit.blen (fit_bs128 (k:=16) (n:=64) (by omega) (by omega))) (by omega)
  have hinfo:inf=dInfo P Q a b side:=by unfold dInfo;rw[Hma.out,Hmb.out,Hzp.out,←hBa,←hBb,hinf]
  obtain⟨d,hd⟩:∃d,d=drawN Q x (dInfo P Q a b side):=⟨_,rfl⟩
  have hde:d=e0 % Q:=by rw[hd,he0,hbs,hBx,hinfo];rfl
  have hdQ:d<Q:=by rw[hde];exact Nat.mod_lt _ (by omega)
  have hfd:blen d≤1024:=Nat.le_trans (blen_mono (Nat.le_of_lt hdQ)) hFQ
  have HBx:=hide hBx
  have HBa:=hide hBa
  have HBb:=hide hBb
  have HLx:=hide hLx
  have HLa:=hide hLa
  have HLb:=hide hLb
  have Hinf:=hide hinf
  have HLi:=hide hLi
  have Hbs:=hide hbs
  have Hel:=hide hel
  have He0:=hide he0
  have Hd:=hide hd
  have Hde:=hide hde
  have hml:side.length=n:=HM.out.2.1
  have Hml:=hide hml
  clear hBx hBa hBb hLx hLa hLb hMe hinf hLi hbs hel he0 hinfo hd hde hml
  refine wp_region_monor (RF Y.heap.size) (RF.refl _) (RF.trans _) 15 (fun i=>([MR.eq _ (.agg #[.slice A1 l1 c1,.slice A2 l2 c2,.slice A3 l3 c3,.slice A4 l4 c4]),MR.eq _ (.slice A7 l7 c7),bytesF Y.heap.size (z) (Bx),litF Y.heap.size 5 4 dlqB,bytesF Y.heap.size (4) (dlqB),MR.eq _ (.agg #[.slice A1 l1 c1,.slice A2 l2 c2,.slice A3 l3 c3,.slice A4 l4 c4]),MR.eq _ (.slice A5 l5 c5),bytesF Y.heap.size (zp) (Ba),MR.eq _ (.agg #[.slice A1 l1 c1,.slice A2 l2 c2,.slice A3 l3 c3,.slice A4 l4 c4]),MR.eq _ (.slice A6 l6 c6),bytesF Y.heap.size (zp) (Bb),MR.eq _ (.slice A n c),bssF Y.heap.size 4 [dlqB,Ba,Bb,side],bytesF Y.heap.size (M) (inf),bytesF Y.heap.size (64) (bs)]:List (MR (RF Y.heap.size))).getD i (MR.eq _ undef)) (by kernel_rfl) (by kernel_rfl) ?_ ?_
  · intro i hi
    match i,hi with
    | 0,_=>
      intro u wx o ho hE hw
      injection (ho:some _=some o)with ho
      subst ho
      have hEx:Ext Y wx:=(hE.ext (Nat.le_refl _)).undrew
      simp only[fr,dstOf]
      go_simp
      have z0:=hEx.cellv y0
      have z1:=hEx.cellv y1
      have z2:=hEx.cellv y2
      have z3:=hEx.cellv y3
      go_wp2
      first | exact RF.refl _ _ | exact⟨trivial,RF.refl _ _⟩ | exact⟨_,rfl,RF.refl _ _,rfl⟩ | exact⟨RF.refl _ _,rfl⟩
    | 1,_=>
      intro u wx o ho hE hw
      injection (ho:some _=some o)with ho
      subst ho
      have hEx:Ext Y wx:=(hE.ext (Nat.le_refl _)).undrew
      simp only[fr,dstOf]
      go_simp
      go_wp2
      first | exact RF.refl _ _ | exact⟨_,rfl,RF.refl _ _,rfl⟩ | exact⟨RF.refl _ _,rfl⟩
    | 2,_=>
      intro u wx o ho hE hw
      injection (ho:some _=some o)with ho
      subst ho
      have hEx:Ext Y wx:=(hE.ext (Nat.le_refl _)).undrew
      have f0:u 0=.agg #[.slice A1 l1 c1,.slice A2 l2 c2,.slice A3 l3 c3,.slice A4 l4 c4]:=hw 0 (by omega) (by kernel_rfl)
      have f1:u 1=.slice A7 l7 c7:=hw 1 (by omega) (by kernel_rfl)
      simp only[fr,dstOf]
      go_simp
      go_wp2_with fail
      refine(rfixed_any _ _ P Q G H _ x (HG.out.ext (hE12.trans hEx)) (hVx.ext (hE12.trans hEx)) (by omega) (by omega) hbx).mono ?_
      rintro e wn ⟨A9,c9,rfl,hO,hU⟩
      go_wp2_with fail
      first | exact⟨_,rfl,(RF.of hU),bytesF_mk ⟨_,_,by rw[Hz.out],Own.pt (by rw[HBx.out];exact hO) HLx.out⟩⟩ | exact⟨(RF.of hU),bytesF_mk ⟨_,_,by rw[Hz.out],Own.pt (by rw[HBx.out];exact hO) HLx.out⟩⟩
    | 3,_=>
      intro u wx o ho hE hw
      injection (ho:some _=some o)with ho
      subst ho
      have hEx:Ext Y wx:=(hE.ext (Nat.le_refl _)).undrew
      simp only[fr,dstOf]
      go_simp
      go_wp2
      first | exact⟨_,rfl,RF.of (uR_.alloc _),litF_mk ⟨_,_,rfl,hEx.size,rfl,heap_alloc_new wx _⟩⟩ | exact⟨RF.of (uR_.alloc _),litF_mk ⟨_,_,rfl,hEx.size,rfl,heap_alloc_new wx _⟩⟩
    | 4,_=>
      intro u wx o ho hE hw
      injection (ho:some _=some o)with ho
      subst ho
      have hEx:Ext Y wx:=(hE.ext (Nat.le_refl _)).undrew
      obtain⟨g3,aM3,f3,hg3,aN3,hV3⟩:=litF_out (hw 3 (by omega) (by kernel_rfl))
      simp only[fr,dstOf]
      go_simp
      have hcv:=run_convert_mark (P:=Tryz.prog) (n:=4) (c:=4) hV3 Tryz.under_bs Tryz.under8
      go_wp2
      first | exact⟨_,rfl,RF.freeze hg3,bytesF_mk ⟨_,_,rfl,rfl,Nat.le_refl _,by simp[maxLen],(RF.freeze hg3).sl (lit_bytes hV3)⟩⟩ | exact⟨RF.freeze hg3,bytesF_mk ⟨_,_,rfl,rfl,Nat.le_refl _,by simp[maxLen],(RF.freeze hg3).sl (lit_bytes hV3)⟩⟩
    | 5,_=>
      intro u wx o ho hE hw
      injection (ho:some _=some o)with ho
      subst ho
      have hEx:Ext Y wx:=(hE.ext (Nat.le_refl _)).undrew
      simp only[fr,dstOf]
      go_simp
      have z0:=hEx.cellv y0
      have z1:=hEx.cellv y1
      have z2:=hEx.cellv y2
      have z3:=hEx.cellv y3
      go_wp2
      first | exact RF.refl _ _ | exact⟨trivial,RF.refl _ _⟩ | exact⟨_,rfl,RF.refl _ _,rfl⟩ | exact⟨RF.refl _ _,rfl⟩
    | 6,_=>
      intro u wx o ho hE hw
      injection (ho:some _=some o)with ho
      subst ho
      have hEx:Ext Y wx:=(hE.ext (Nat.le_refl _)).undrew
      simp only[fr,dstOf]
      go_simp
      go_wp2
      first | exact RF.refl _ _ | exact⟨_,rfl,RF.refl _ _,rfl⟩ | exact⟨RF.refl _ _,rfl⟩
    | 7,_=>
      intro u wx o ho hE hw
      injection (ho:some _=some o)with ho
      subst ho
      have hEx:Ext Y wx:=(hE.ext (Nat.le_refl _)).undrew
      have f5:u 5=.agg #[.slice A1 l1 c1,.slice A2 l2 c2,.slice A3 l3 c3,.slice A4 l4 c4]:=hw 5 (by omega) (by kernel_rfl)
      have f6:u 6=.slice A5 l5 c5:=hw 6 (by omega) (by kernel_rfl)
      simp only[fr,dstOf]
      go_simp
      go_wp2_with fail
      refine(rgbytes_any _ _ P Q G H _ a (HG.out.ext (hE12.trans hEx)) (hVa.ext (hE12.trans hEx)) (by omega) (by omega) hba).mono ?_
      rintro e wn ⟨A9,c9,rfl,hO,hU⟩
      go_wp2_with fail
      first | exact⟨_,rfl,(RF.of hU),bytesF_mk ⟨_,_,by rw[Hzp.out],Own.pt (by rw[HBa.out];exact hO) HLa.out⟩⟩ | exact⟨(RF.of hU),bytesF_mk ⟨_,_,by rw[Hzp.out],Own.pt (by rw[HBa.out];exact hO) HLa.out⟩⟩
    | 8,_=>
      intro u wx o ho hE hw
      injection (ho:some _=some o)with ho
      subst ho
      have hEx:Ext Y wx:=(hE.ext (Nat.le_refl _)).undrew
      simp only[fr,dstOf]
      go_simp
      have z0:=hEx.cellv y0
      have z1:=hEx.cellv y1
      have z2:=hEx.cellv y2
      have z3:=hEx.cellv y3
      go_wp2
      first | exact RF.refl _ _ | exact⟨trivial,RF.refl _ _⟩ | exact⟨_,rfl,RF.refl _ _,rfl⟩ | exact⟨RF.refl _ _,rfl⟩
    | 9,_=>
      intro u wx o ho hE hw
      injection (ho:some _=some o)with ho
      subst ho
      have hEx:Ext Y wx:=(hE.ext (Nat.le_refl _)).undrew
      simp only[fr,dstOf]
      go_simp
      go_wp2
      first | exact RF.refl _ _ | exact⟨_,rfl,RF.refl _ _,rfl⟩ | exact⟨RF.refl _ _,rfl⟩
    | 10,_=>
      intro u wx o ho hE hw
      injection (ho:some _=some o)with ho
      subst ho
      have hEx:Ext Y wx:=(hE.ext (Nat.le_refl _)).undrew
      have f8:u 8=.agg #[.slice A1 l1 c1,.slice A2 l2 c2,.slice A3 l3 c3,.slice A4 l4 c4]:=hw 8 (by omega) (by kernel_rfl)
      have f9:u 9=.slice A6 l6 c6:=hw 9 (by omega) (by kernel_rfl)
      simp only[fr,dstOf]
      go_simp
      go_wp2_with fail
      refine(rgbytes_any _ _ P Q G H _ b (HG.out.ext (hE12.trans hEx)) (hVb.ext (hE12.trans hEx)) (by omega) (by omega) hbb).mono ?_
      rintro e wn ⟨A9,c9,rfl,hO,hU⟩
      go_wp2_with fail
      first | exact⟨_,rfl,(RF.of hU),bytesF_mk ⟨_,_,by rw[Hzp.out],Own.pt (by rw[HBb.out];exact hO) HLb.out⟩⟩ | exact⟨(RF.of hU),bytesF_mk ⟨_,_,by rw[Hzp.out],Own.pt (by rw[HBb.out];exact hO) HLb.out⟩⟩
    | 11,_=>
      intro u wx o ho hE hw
      injection (ho:some _=some o)with ho
      subst ho
      have hEx:Ext Y wx:=(hE.ext (Nat.le_refl _)).undrew
      simp only[fr,dstOf]
      go_simp
      go_wp2
      first | exact RF.refl _ _ | exact⟨_,rfl,RF.refl _ _,rfl⟩ | exact⟨RF.refl _ _,rfl⟩
    | 12,_=>
      intro u wx o ho hE hw
      injection (ho:some _=some o)with ho
      subst ho
      have hEx:Ext Y wx:=(hE.ext (Nat.le_refl _)).undrew
      have hQ4:=bytesF_out (hw 4 (by omega) (by kernel_rfl))
      cases hQ4;rename_i aA4 hQ4
      cases hQ4;rename_i aC4 hQ4
      have f4:=hQ4.1
      have aN4:=hQ4.2.1
      have aX4:=hQ4.2.2.1
      have aM4:=hQ4.2.2.2.1
      have hV4:=hQ4.2.2.2.2
      clear hQ4
      have hQ7:=bytesF_out (hw 7 (by omega) (by kernel_rfl))
      cases hQ7;rename_i aA7 hQ7
      cases hQ7;rename_i aC7 hQ7
      have f7:=hQ7.1
      have aN7:=hQ7.2.1
      have aX7:=hQ7.2.2.1
      have aM7:=hQ7.2.2.2.1
      have hV7:=hQ7.2.2.2.2
      clear hQ7
      have hQ10:=bytesF_out (hw 10 (by omega) (by kernel_rfl))
      cases hQ10;rename_i aA10 hQ10
      cases hQ10;rename_i aC10 hQ10
      have f10:=hQ10.1
      have aN10:=hQ10.2.1
      have aX10:=hQ10.2.2.1
      have aM10:=hQ10.2.2.2.1
      have hV10:=hQ10.2.2.2.2
      clear hQ10
      have f11:u 11=.slice A n c:=hw 11 (by omega) (by kernel_rfl)
      simp only[fr,dstOf]
      go_simp
      go_wp2
      first | exact⟨_,rfl,RF.of (uR_.alloc _),bssF_mk ⟨_,_,[⟨aA4,4,aC4,dlqB⟩,⟨aA7,zp,aC7,Ba⟩,⟨aA10,zp,aC10,Bb⟩,⟨A,n,c,side⟩],rfl,rfl,rfl,(by intro p hp;simp only[List.mem_cons,List.mem_nil_iff,or_false]at hp;rcases hp with rfl | rfl | rfl | rfl;exact rfl;exact HLa.out;exact HLb.out;exact Hml.out),Pts.lit wx _ _ (by intro p hp;simp only[List.mem_cons,List.mem_nil_iff,or_false]at hp;rcases hp with rfl | rfl | rfl | rfl;exact⟨hV4,aN4,aX4,aM4⟩;exact⟨hV7,aN7,aX7,aM7⟩;exact⟨hV10,aN10,aX10,aM10⟩;exact HM.out.ext (hE12.trans hEx))⟩⟩ | exact⟨RF.of (uR_.alloc _),bssF_mk ⟨_,_,[⟨aA4,4,aC4,dlqB⟩,⟨aA7,zp,aC7,Ba⟩,⟨aA10,zp,aC10,Bb⟩,⟨A,n,c,side⟩],rfl,rfl,rfl,(by intro p hp;simp only[List.mem_cons,List.mem_nil_iff,or_false]at hp;rcases hp with rfl | rfl | rfl | rfl;exact rfl;exact HLa.out;exact HLb.out;exact Hml.out),Pts.lit wx _ _ (by intro p hp;simp only[List.mem_cons,List.mem_nil_iff,or_false]at hp;rcases hp with rfl | rfl | rfl | rfl;exact⟨hV4,aN4,aX4,aM4⟩;exact⟨hV7,aN7,aX7,aM7⟩;exact⟨hV10,aN10,aX10,aM10⟩;exact HM.out.ext (hE12.trans hEx))⟩⟩
    | 13,_=>
      intro u wx o ho hE hw
      injection (ho:some _=some o)with ho
      subst ho
      have hEx:Ext Y wx:=(hE.ext (Nat.le_refl _)).undrew
      obtain⟨aA12,aC12,aP12,f12,aN12,aB12,aL12,hV12⟩:=bssF_out (hw 12 (by omega) (by kernel_rfl))
      simp only[fr,dstOf]
      go_simp
      go_wp2_with fail
      refine(join_any aA12 4 aC12 aP12 M _ hV12 aN12 (by rw[flat_bs aP12,aB12];simp only[List.flatten_cons,List.flatten_nil,List.append_nil];rw[←HLi.out,Hinf.out,List.append_assoc,List.append_assoc]) (by omega) (by simp[maxLen])).mono ?_
      rintro e wn ⟨A9,c9,rfl,hO,hU⟩
      go_wp2_with fail
      first | exact⟨_,rfl,(RF.of hU),bytesF_mk ⟨_,_,rfl,Own.pt (by rw[flat_bs aP12,aB12]at hO;simp only[List.flatten_cons,List.flatten_nil,List.append_nil]at hO;rw[Hinf.out,List.append_assoc,List.append_assoc];exact hO) HLi.out⟩⟩ | exact⟨(RF.of hU),bytesF_mk ⟨_,_,rfl,Own.pt (by rw[flat_bs aP12,aB12]at hO;simp only[List.flatten_cons,List.flatten_nil,List.append_nil]at hO;rw[Hinf.out,List.append_assoc,List.append_assoc];exact hO) HLi.out⟩⟩
    | 14,_=>
      intro u wx o ho hE hw
      injection (ho:some _=some o)with ho
      subst ho
      have hEx:Ext Y wx:=(hE.ext (Nat.le_refl _)).undrew
      have hQ2:=bytesF_out (hw 2 (by omega) (by kernel_rfl))
      cases hQ2;rename_i aA2 hQ2
      cases hQ2;rename_i aC2 hQ2
      have f2:=hQ2.1
      have aN2:=hQ2.2.1
      have aX2:=hQ2.2.2.1
      have aM2:=hQ2.2.2.2.1
      have hV2:=hQ2.2.2.2.2
      clear hQ2
      have hQ13:=bytesF_out (hw 13 (by omega) (by kernel_rfl))
      cases hQ13;rename_i aA13 hQ13
      cases hQ13;rename_i aC13 hQ13
      have f13:=hQ13.1
      have aN13:=hQ13.2.1
      have aX13:=hQ13.2.2.1
      have aM13:=hQ13.2.2.2.1
      have hV13:=hQ13.2.2.2.2
      clear hQ13
      simp only[fr,dstOf]
      go_simp
      go_wp2_with fail
      refine(rexpand_any aA2 z aC2 Bx aA13 M aC13 inf 64 _ hV2 aN2 aX2 aM2 (by omega) hV13 aN13 aX13 aM13 (by omega) (by omega)).mono ?_
      rintro e wn ⟨A9,c9,rfl,hO,hU⟩
      go_wp2_with fail
      first | exact⟨_,rfl,(RF.of hU),bytesF_mk ⟨_,_,rfl,Hel.out,(by have h1:=hO.1;rw[List.length_map,←Hbs.out,Hel.out]at h1;exact h1),hO.2.1,by rw[Hbs.out];exact hO.sl⟩⟩ | exact⟨(RF.of hU),bytesF_mk ⟨_,_,rfl,Hel.out,(by have h1:=hO.1;rw[List.length_map,←Hbs.out,Hel.out]at h1;exact h1),hO.2.1,by rw[Hbs.out];exact hO.sl⟩⟩
    | k+15,h=>exact absurd h (by omega)
  · intro u wx hE hJ
    have hEx:Ext Y wx:=(hE.ext (Nat.le_refl _)).undrew
    have f0:u 0=.agg #[.slice A1 l1 c1,.slice A2 l2 c2,.slice A3 l3 c3,.slice A4 l4 c4]:=hJ 0 (by omega)
    have f1:u 1=.slice A7 l7 c7:=hJ 1 (by omega)
    have hQ2:=bytesF_out (hJ 2 (by omega))
    cases hQ2;rename_i aA2 hQ2
    cases hQ2;rename_i aC2 hQ2
    have f2:=hQ2.1
    have aN2:=hQ2.2.1
    have aX2:=hQ2.2.2.1
    have aM2:=hQ2.2.2.2.1
    have hV2:=hQ2.2.2.2.2
    clear hQ2
    obtain⟨g3,aM3,f3,hg3,aN3,hV3⟩:=litF_out (hJ 3 (by omega))
    have hQ4:=bytesF_out (hJ 4 (by omega))
    cases hQ4;rename_i aA4 hQ4
    cases hQ4;rename_i aC4 hQ4
    have f4:=hQ4.1
    have aN4:=hQ4.2.1
    have aX4:=hQ4.2.2.1
    have aM4:=hQ4.2.2.2.1
    have hV4:=hQ4.2.2.2.2
    clear hQ4
    have f5:u 5=.agg #[.slice A1 l1 c1,.slice A2 l2 c2,.slice A3 l3 c3,.slice A4 l4 c4]:=hJ 5 (by omega)
    have f6:u 6=.slice A5 l5 c5:=hJ 6 (by omega)
    have hQ7:=bytesF_out (hJ 7 (by omega))
    cases hQ7;rename_i aA7 hQ7
    cases hQ7;rename_i aC7 hQ7
    have f7:=hQ7.1
    have aN7:=hQ7.2.1
    have aX7:=hQ7.2.2.1
    have aM7:=hQ7.2.2.2.1
    have hV7:=hQ7.2.2.2.2
    clear hQ7
    have f8:u 8=.agg #[.slice A1 l1 c1,.slice A2 l2 c2,.slice A3 l3 c3,.slice A4 l4 c4]:=hJ 8 (by omega)
    have f9:u 9=.slice A6 l6 c6:=hJ 9 (by omega)
    have hQ10:=bytesF_out (hJ 10 (by omega))
    cases hQ10;rename_i aA10 hQ10
    cases hQ10;rename_i aC10 hQ10
    have f10:=hQ10.1
    have aN10:=hQ10.2.1
    have aX10:=hQ10.2.2.1
    have aM10:=hQ10.2.2.2.1
    have hV10:=hQ10.2.2.2.2
    clear hQ10
    have f11:u 11=.slice A n c:=hJ 11 (by omega)
    obtain⟨aA12,aC12,aP12,f12,aN12,aB12,aL12,hV12⟩:=bssF_out (hJ 12 (by omega))
    have hQ13:=bytesF_out (hJ 13 (by omega))
    cases hQ13;rename_i aA13 hQ13
    cases hQ13;rename_i aC13 hQ13
    have f13:=hQ13.1
    have aN13:=hQ13.2.1
    have aX13:=hQ13.2.2.1
    have aM13:=hQ13.2.2.2.1
    have hV13:=hQ13.2.2.2.2
    clear hQ13
    have hQ14:=bytesF_out (hJ 14 (by omega))
    cases hQ14;rename_i aA14 hQ14
    cases hQ14;rename_i aC14 hQ14
    have f14:=hQ14.1
    have aN14:=hQ14.2.1
    have aX14:=hQ14.2.2.1
    have aM14:=hQ14.2.2.2.1
    have hV14:=hQ14.2.2.2.2
    clear hQ14
    clear hJ
    simp only[fr,dstOf]
    go_simp
    try simp only[dS_,dZ_]
    have b5v:=b5x.ext hEx
    have b12v:=b12.ext hEx
    have b10v:=b10x.ext hEx
    have hEv:=hE12.trans hEx
    have hD0:=hC0.ext hEx
    have hD1:=hC1.ext hEx
    have hD2:=hC2.ext hEx
    have hD3:=hC3.ext hEx
    clear hV2 hV3 hV4 hV7 hV10 hV12 hV13 y0 y1 y2 y3 hEx b5x b12 b10x hE12 hC0 hC1 hC2 hC3
    go_wp2_with fail
    refine name_w (fun V0 hV0=>?_)
    subst hV0
    have hVd:Ext V0 V0.drew:=uR_.drew
    have hED:=hEv.trans hVd
    have y1:=fun y:Wd (Ext V0.drew)=>y.ok.cellv ((b5v.ext hVd).at 1 rfl)
    refine wp_region_plan (Ext _) 4 [(false,0),(false,2),(false,3),(true,1)] (by kernel_rfl) (by kernel_rfl) (uR_) (fun hne=>?_)
    repeat (refine hq_ rfl fun K k=>?_;go_simp;refine k.out _ ?_;clear k K)
    refine head_l rfl ?_
    go_wp2_with (go_at_call 72;go_must (refine(rof_any aA14 64 aC14 bs _ Hel.out (by omega) (hV14.ext hVd)).mono ?_);rw[←He0.out];rintro e v3 ⟨A8,l8,c8,rfl,hR8,hv3⟩)
    refine kx_ hv3 ?_
    repeat (refine hq_ rfl fun K k=>?_;go_simp;refine k.out _ ?_;clear k K)
    clear y1
    refine head_nil ?_
    try simp only[dS_,dZ_]
    go_wp2_with fail
    refine(rmof_any _ _ e0 Q 1024 _ hR8 (hg2.ext (hED.trans hv3)) hfe hFQ (by omega) (by omega)).mono ?_
    rw[←Hde.out]
    rintro e v4 ⟨A9,l9,c9,rfl,hR9,hv4⟩
    have hl9:=hR9.len
    have hW4:=hVd.trans (hv3.trans hv4)
    have b5':=b5v.ext hW4
    have b12':=b12v.ext hW4
    have b10':=b10v.ext hW4
    have hE4:=hEv.trans hW4
    have hC0':=hD0.ext hW4
    have hC1':=hD1.ext hW4
    have hC2':=hD2.ext hW4
    have hC3':=hD3.ext hW4
    clear hVd hED hv3 hv4 hR8 hW4 b5v b12v b10v hEv hD0 hD1 hD2 hD3 hV14
    have Hl9:=hide hl9
    clear hl9
    go_upto_if 50 with fail
    go_cut [14] (fun s wx=>∃(AK:Option Addr) (lK cK:Nat),s=.slice AK lK cK∧RefV wx (.slice AK lK cK) (pvK P Q a b x side)∧Ext v4 wx)
    case first=>
     by_cases hd0:d=0
     case pos=>
      obtain rfl:l9=0:=by rw[Hl9.out,hd0];rfl
      go_wp2_with fail
      refine(rsmall_any 1 _ (by decide)).mono ?_
      rintro e v5 ⟨AK,lK,cK,rfl,hR5,hv5⟩
      have hK:RefV v5 (.slice AK lK cK) (pvK P Q a b x side):=by unfold pvK sgnK nz1;rw[←Hd.out,if_pos hd0];exact hR5
      clear hd0
      go_wp2_with fail
      go_meet
      exact⟨AK,lK,cK,rfl,hK,hv5⟩
     case neg=>
      have hlp:0<l9:=by
       rw[Hl9.out]
       rcases Nat.eq_zero_or_pos (blen d)with h0 | h0
       · exact absurd (blen_eq_zero.1 h0) hd0
       · exact h0
      have hne:¬((l9:Int)=0):=by omega
      have hnb:((l9:Int) == 0)=false:=beq_eq_false_iff_ne.2 hne
      have hK:RefV v4 (.slice A9 l9 c9) (pvK P Q a b x side):=by unfold pvK sgnK nz1;rw[←Hd.out,if_neg hd0];exact hR9
      clear hd0
      go_wp2_with fail
      go_meet
      exact⟨A9,l9,c9,rfl,hK,uR_⟩
    case rest=>
     obtain⟨AK,lK,cK,rfl,hVK,hv5⟩:=hcut
     obtain⟨kk,hkk⟩:∃kk,kk=pvK P Q a b x side:=⟨_,rfl⟩
     rw[←hkk]at hVK
     have hkF:blen kk≤1024:=by
      rw[hkk];unfold pvK sgnK nz1;rw[←Hd.out]
      by_cases hd0:d=0
      · rw[if_pos hd0];decide
      · rw[if_neg hd0];exact hfd
     have hfk:=hkF
     have HK:=hide hkk
     have b5:=b5'.ext hv5
     have b12:=b12'.ext hv5
     have b10:=b10'.ext hv5
     have hEV:=hE4.trans hv5
     have hC0:=hC0'.ext hv5
     have hC1:=hC1'.ext hv5
     have hC2:=hC2'.ext hv5
     have hC3:=hC3'.ext hv5
     clear hkk b5' b12' b10' hE4 hR9 hv5 hC0' hC1' hC2' hC3' Hl9 hkF
     go_wp2_with fail
     refine name_w (fun V hV=>?_)
     subst hV
     have hVd:Ext V V.drew:=uR_.drew
     have hED:=hEV.trans hVd
     have y0:=fun y:Wd (Ext V.drew)=>y.ok.cellv ((b5.ext hVd).at 0 rfl)
     have y1:=fun y:Wd (Ext V.drew)=>y.ok.cellv ((b5.ext hVd).at 1 rfl)
     have y2:=fun y:Wd (Ext V.drew)=>y.ok.cellv ((b5.ext hVd).at 2 rfl)
     have y3:=fun y:Wd (Ext V.drew)=>y.ok.cellv ((b5.ext hVd).at 3 rfl)
     have x0:=fun y:Wd (Ext V.drew)=>y.ok.cellv ((b12.ext hVd).at 0 rfl)
     have x1:=fun y:Wd (Ext V.drew)=>y.ok.cellv ((b12.ext hVd).at 1 rfl)
     have x2:=fun y:Wd (Ext V.drew)=>y.ok.cellv ((b12.ext hVd).at 2 rfl)
     have x3:=fun y:Wd (Ext V.drew)=>y.ok.cellv ((b12.ext hVd).at 3 rfl)
     have ga:=gok_of Ha.out hP2 hQ64
     have gb:=gok_of Hb.out hP2 hQ64
     have hmu:memB P Q (a^kk % P)=true:=ga.mem kk
     have hmv:memB P Q (b^kk % P)=true:=gb.mem kk
     obtain⟨un,hun⟩:∃u,u=a^kk % P:=⟨_,rfl⟩
     obtain⟨vn,hvn⟩:∃u,u=b^kk % P:=⟨_,rfl⟩
     rw[←hun]at hmu
     rw[←hvn]at hmv
     have hmem:[a,b,yn,zn,un,vn].all (memB P Q)=true:=by
      simp only[List.all_cons,List.all_nil,Ha.out,Hb.out,Hyn.out,Hzn.out,hmu,hmv,ga.mem,gb.mem]
      rfl
     have Hun:=hide hun
     have Hvn:=hide hvn
     have Hmem:=hide hmem
     obtain⟨cc,hcc⟩:∃cc,cc=ansN P Q [a,b,yn,zn,un,vn] side:=⟨_,rfl⟩
     have hcQ:cc<Q:=by rw[hcc];exact ansN_lt (by omega)
     have HC:Hid (cc=pvC P Q a b x side):=hide (by rw[hcc,hun,hvn,Hyn.out,Hzn.out,HK.out];rfl)
     have Hcc:=hide hcc
     have hfc:blen cc≤1024:=Nat.le_trans (blen_mono (Nat.le_of_lt hcQ)) hFQ
     clear hun hvn hcc hmu hmv hmem ga gb
     refine wp_region_plan (Ext _) 11 [(false,0),(false,1),(false,2),(false,3),(false,4),(false,6),(false,7),(false,8),(false,10),(true,5),(true,9)] (by kernel_rfl) (by kernel_rfl) (uR_) (fun hne=>?_)
     repeat (refine hq_ rfl fun K k=>?_;go_simp;refine k.out _ ?_;clear k K)
     refine head_l rfl ?_
     go_wp2_with (go_at_call 66;go_must (refine(rgexp_any _ _ P Q G H _ _ a kk (HG.out.ext hED) (hVa.ext hED) (hVK.ext hVd) (by omega) (by omega) (by omega) (by omega)).mono ?_);rw[←Hun.out];rintro e v1 ⟨A20,l20,c20,rfl,hR20,hv1⟩)
     refine kx_ hv1 ?_
     repeat (refine hq_ rfl fun K k=>?_;go_simp;refine k.out _ ?_;clear k K)
     refine head_l rfl ?_
     go_wp2_with (go_at_call 66;go_must (refine(rgexp_any _ _ P Q G H _ _ b kk (HG.out.ext (hED.trans hv1)) (hVb.ext (hED.trans hv1)) (hVK.ext (hVd.trans hv1)) (by omega) (by omega) (by omega) (by omega)).mono ?_);rw[←Hvn.out];rintro e v2 ⟨A21,l21,c21,rfl,hR21,hv2⟩;have hv2g:=hv1.trans hv2)
     refine kx_ hv2g ?_
     repeat (refine hq_ rfl fun K k=>?_;go_simp;refine k.out _ ?_;clear k K)
     clear y0 y1 y2 y3 x0 x1 x2 x3
     refine head_nil ?_
     try simp only[dS_,dZ_]
     go_wp2_with fail
     have hW2:=hVd.trans hv2g
     refine(rans_any 1024 _ _ P Q G H _ _ _ a b yn zn un vn A n c side (HG.out.ext (hED.trans hv2g)) ⟨E0,m0,d0,E1,m1,d1,E2,m2,d2,E3,m3,d3,rfl,hC0.ext hW2,hC1.ext hW2,hC2.ext hW2,hC3.ext hW2⟩ (hR20.ext hv2) hR21 (HM.out.ext (hED.trans hv2g)) Hmem.out hFP hFQ (by omega) (by omega) (by omega) (by omega)).mono ?_
     rw[←Hcc.out]
     rintro e v3 ⟨A22,l22,c22,rfl,hR22,hv3⟩
     have hV3:=hW2.trans hv3
     have b5':=b5.ext hV3
     have b12':=b12.ext hV3
     have b10':=b10.ext hV3
     have hVK':=hVK.ext hV3
     have hE3:=hEV.trans hV3
     have hD0:=hC0.ext hV3
     have hD1:=hC1.ext hV3
     have hD2:=hC2.ext hV3
     have hD3:=hC3.ext hV3
     clear hVd hED hR20 hR21 hv1 hv2 hv2g hv3 hV3 b5 b12 b10 hVK hEV hC0 hC1 hC2 hC3 hW2
     go_wp2_with fail
     refine name_w (fun V hV=>?_)
     subst hV
     have hVd:Ext V V.drew:=uR_.drew
     have hED:=hE3.trans hVd
     have y1:=fun y:Wd (Ext V.drew)=>y.ok.cellv ((b5'.ext hVd).at 1 rfl)
     obtain⟨ss,hss⟩:∃ss,ss=(kk+cc*x % Q) % Q:=⟨_,rfl⟩
     have hsQ:ss<Q:=by rw[hss];exact Nat.mod_lt _ (by omega)
     have Hss:=hide hss
     have hmQ:cc*x % Q<Q:=Nat.mod_lt _ (by omega)
     have hfm:blen (cc*x % Q)≤1024:=Nat.le_trans (blen_mono (Nat.le_of_lt hmQ)) hFQ
     have hfs:blen ss≤1024:=Nat.le_trans (blen_mono (Nat.le_of_lt hsQ)) hFQ
     clear hss
     refine wp_region_plan (Ext _) 8 [(false,0),(false,1),(false,2),(false,3),(false,4),(false,6),(false,7),(true,5)] (by kernel_rfl) (by kernel_rfl) (uR_) (fun hne=>?_)
     repeat (refine hq_ rfl fun K k=>?_;go_simp;refine k.out _ ?_;clear k K)
     refine head_l rfl ?_
     go_wp2_with (go_at_call 76;go_must (refine(rmmul_any _ _ _ cc x Q 1024 _ (hR22.ext hVd) (hVx.ext hED) (hg2.ext hED) (by omega) (by omega) (by omega) (by omega) (by omega)).mono ?_);rintro e v1 ⟨A23,l23,c23,rfl,hR23,hv1⟩)
     refine kx_ hv1 ?_
     repeat (refine hq_ rfl fun K k=>?_;go_simp;refine k.out _ ?_;clear k K)
     clear y1
     refine head_nil ?_
     try simp only[dS_,dZ_]
     go_wp2_with fail
     refine(rmadd_any _ _ _ kk (cc*x % Q) Q 1024 _ (hVK'.ext (hVd.trans hv1)) hR23 (hg2.ext (hED.trans hv1)) (by omega) (by omega) (by omega) (by omega) (by omega)).mono ?_
     rw[←Hss.out]
     rintro e v2 ⟨A24,l24,c24,rfl,hR24,hv2⟩
     have hV3:=hVd.trans (hv1.trans hv2)
     have b5:=b5'.ext hV3
     have b12:=b12'.ext hV3
     have b10:=b10'.ext hV3
     have hRc:=hR22.ext hV3
     have hE4:=hE3.trans hV3
     have hC0:=hD0.ext hV3
     have hC1:=hD1.ext hV3
     have hC2:=hD2.ext hV3
     have hC3:=hD3.ext hV3
     clear hVd hED hR22 hR23 hv1 hv2 hV3 b5' b12' b10' hVK' hE3 hD0 hD1 hD2 hD3
     go_wp2_with fail
     refine name_w (fun V hV=>?_)
     subst hV
     have hVd:Ext V V.drew:=uR_.drew
     have hED:=hE4.trans hVd
     have y0:=fun y:Wd (Ext V.drew)=>y.ok.cellv ((b5.ext hVd).at 0 rfl)
     have y1:=fun y:Wd (Ext V.drew)=>y.ok.cellv ((b5.ext hVd).at 1 rfl)
     have y2:=fun y:Wd (Ext V.drew)=>y.ok.cellv ((b5.ext hVd).at 2 rfl)
     have y3:=fun y:Wd (Ext V.drew)=>y.ok.cellv ((b5.ext hVd).at 3 rfl)
     have x0:=fun y:Wd (Ext V.drew)=>y.ok.cellv ((b12.ext hVd).at 0 rfl)
     have x1:=fun y:Wd (Ext V.drew)=>y.ok.cellv ((b12.ext hVd).at 1 rfl)
     have x2:=fun y:Wd (Ext V.drew)=>y.ok.cellv ((b12.ext hVd).at 2 rfl)
     have x3:=fun y:Wd (Ext V.drew)=>y.ok.cellv ((b12.ext hVd).at 3 rfl)
     have hbc:bytelen cc≤byteSz Q:=byteSz_mono (Nat.le_of_lt hcQ)
     have hbs:bytelen ss≤byteSz Q:=byteSz_mono (Nat.le_of_lt hsQ)
     refine wp_region_plan (Ext _) 8 [(false,0),(false,1),(false,2),(false,4),(false,5),(true,3),(true,6),(true,7)] (by kernel_rfl) (by kernel_rfl) (uR_) (fun hne=>?_)
     repeat (refine hq_ rfl fun K k=>?_;go_simp;refine k.out _ ?_;clear k K)
     refine head_l rfl ?_
     go_wp2_with (go_at_call 68;go_must (refine(rfixed_any _ _ P Q G H _ cc (HG.out.ext hED) (hRc.ext hVd) (by omega) (by omega) hbc).mono ?_);rw[←Hz.out];rintro e v1 ⟨A25,c25,rfl,hO25,hv1⟩)
     refine kx_ hv1 ?_
     repeat (refine hq_ rfl fun K k=>?_;go_simp;refine k.out _ ?_;clear k K)
     refine head_l rfl ?_
     go_wp2_with (go_at_call 68;go_must (refine(rfixed_any _ _ P Q G H _ ss (HG.out.ext (hED.trans hv1)) (hR24.ext (hVd.trans hv1)) (by omega) (by omega) hbs).mono ?_);rw[←Hz.out];rintro e v2 ⟨A26,c26,rfl,hO26,hv2⟩;have hv2g:=hv1.trans hv2)
     refine kx_ hv2g ?_
     repeat (refine hq_ rfl fun K k=>?_;go_simp;refine k.out _ ?_;clear k K)
     clear y0 y1 y2 y3 x0 x1 x2 x3
     have hlc:(toB cc z).length=z:=toB_length _ _
     have hls:(toB ss z).length=z:=toB_length _ _
     have hlN:(toB cc z++toB ss z).length=N:=by rw[List.length_append,hlc,hls,HN.out];have:=Hz.out;omega
     have Hlc:=hide hlc
     have Hls:=hide hls
     have HlN:=hide hlN
     have hO:=(hO25.ext hv2)
     have hfin:toB cc z++toB ss z=pvB P Q a b x side:=by unfold pvB pvS;rw[←HC.out,←HK.out,←Hz.out,←Hss.out]
     have Hfin:=hide hfin
     clear hlc hls hlN hO25 hfin hR24 hRc b5
     refine head_l rfl ?_
     refine wpList_apd by8 one8 Tryz.el8 (toB cc z) (toB ss z) (toB cc z++toB ss z) N rfl HlN.out (by omega) (by unfold maxLen;omega) rfl rfl rfl Hlc.out hO rfl Hls.out hO26.sl hv2g.size ?_
     intro A27 c27 v3 hO27 hU27 hin27
     have hV3d:Ext V.drew v3:=upd_new hU27 hv2g (fun q hq=>(hO.in_ hq).1)
     go_wp2_with fail
     refine kx_ hV3d ?_
     repeat (refine hq_ rfl fun K k=>?_;go_simp;refine k.out _ ?_;clear k K)
     have hV3:=hVd.trans hV3d
     clear hv1 hv2 hv2g hU27 hin27 hV3d hED
     refine head_nil ?_
     try simp only[dS_,dZ_]
     have b10e:=b10.ext hV3
     have w0:=b10e.at 0 rfl
     have w1:=b10e.at 1 rfl
     have w2:=b10e.at 2 rfl
     have w3:=b10e.at 3 rfl
     have f0:=b10e.frozen 0
     have f1:=b10e.frozen 1
     have f2:=b10e.frozen 2
     have f3:=b10e.frozen 3
     go_wp2_with fail
     have hBF:=blk4 b10e (.slice E0 m0 d0) (.slice E1 m1 d1) (.slice E2 m2 d2) (.slice E3 m3 d3)
     have hEF:=ext4 (hE4.trans hV3) (show w.heap.size≤w.heap.size+1 by omega) (.slice E0 m0 d0) (.slice E1 m1 d1) (.slice E2 m2 d2) (.slice E3 m3 d3)
     have hOF:=own4 hO27 (show w.heap.size+1<V.drew.heap.size from b10.lt) (.slice E0 m0 d0) (.slice E1 m1 d1) (.slice E2 m2 d2) (.slice E3 m3 d3)
     have r0:=ref4 (b0:=E0) (m0:=m0) (d0:=d0) (b1:=E1) (m1:=m1) (d1:=d1) (b2:=E2) (m2:=m2) (d2:=d2) (b3:=E3) (m3:=m3) (d3:=d3) (hC0.ext hV3) b10e
     have r1:=ref4 (b0:=E0) (m0:=m0) (d0:=d0) (b1:=E1) (m1:=m1) (d1:=d1) (b2:=E2) (m2:=m2) (d2:=d2) (b3:=E3) (m3:=m3) (d3:=d3) (hC1.ext hV3) b10e
     have r2:=ref4 (b0:=E0) (m0:=m0) (d0:=d0) (b1:=E1) (m1:=m1) (d1:=d1) (b2:=E2) (m2:=m2) (d2:=d2) (b3:=E3) (m3:=m3) (d3:=d3) (hC2.ext hV3) b10e
     have r3:=ref4 (b0:=E0) (m0:=m0) (d0:=d0) (b1:=E1) (m1:=m1) (d1:=d1) (b2:=E2) (m2:=m2) (d2:=d2) (b3:=E3) (m3:=m3) (d3:=d3) (hC3.ext hV3) b10e
     have q0:=hBF.at 0 rfl
     have q1:=hBF.at 1 rfl
     have q2:=hBF.at 2 rfl
     have q3:=hBF.at 3 rfl
     refine bodyPost_ret (v:=.tuple #[.agg #[.slice E0 m0 d0,.slice E1 m1 d1,.slice E2 m2 d2,.slice E3 m3 d3],.slice A27 N c27]) ?_ rfl ?_
     · simp[results,Tryz.results19,go_sem,q0,q1,q2,q3]
     · rw[HR.out,←Hfin.out]
       have hp:=Own.pt hOF HlN.out
       exact⟨_,A27,c27,rfl,⟨E0,m0,d0,E1,m1,d1,E2,m2,d2,E3,m3,d3,rfl,r0,r1,r2,r3⟩,⟨hp.2.2.2,hp.1,hp.2.1,hp.2.2.1⟩,hEF⟩
end
end Go.Proofs.YtdohmikoafkniaaGreat
