/- Equal exponents, walked: the group's inverse, width, members. -/
import Derived.Test.YtdohmikoafkniaaGreatLpInvA
namespace Go.Proofs.YtdohmikoafkniaaGreat
set_option linter.unusedSimpArgs false
set_option linter.unusedVariables false
open Go.RowKit
open Nt Sha
attribute [local go_sem] steady steadyUpon Cls same_cell anyW
attribute [local irreducible] wpHead wpTree wpHeadR sum chalOf
section
variable (gr P Q G H k : Nat) (w : World)
set_option maxRecDepth 100000 in
set_option maxHeartbeats 4000000 in
theorem gInv_any (va:Value) (a b:Nat) (h:GrpV w gr P Q G H) (hV:NatV w va a) (hFa:Fit k a) (hP:Fit k P) (hk:k≤50000) (hk1:1≤k) (hb:b<P) (hab:a*b % P=1):
 Calls Tryz.prog 117 #[.pointer (some ⟨gr,0,none⟩),va] w (RetN w b):=by
 obtain⟨A1,l1,c1,xs,rfl, -⟩:=hV.open_
 go_enter Tryz.func117,Tryz.ntmps117
 go_wp2_with fail
 refine name_w (fun W hW=>?_)
 have b3:Box W w.heap.size 34 (.slice A1 l1 c1):=by rw[hW];exact(Box.new _ _ _).alloc _
 have b4:Box W (w.heap.size+1) 34 (.slice none 0 0):=by rw[hW];exact Box.new_at (by simp)
 have hE0:Ext w W:=by rw[hW];exact((Upd.refl _ _).alloc _).alloc _
 clear hW
 obtain⟨gp,gq,A2,l2,c2,A3,l3,c3,h1,hR, -, -, -⟩:=h.ext hE0
 have y0:=h1.at 0 rfl
 refine wp_region_fg 11 [.val (.eq (.pointer (some ⟨gr,0,none⟩))),.val (.eq (.pointer (some ⟨gr,0,none⟩))),.val (.eq (.pointer (some ⟨gr,0,none⟩))),.val (.eq (.pointer (some ⟨gp,0,none⟩))),.val (.eq (.agg #[.slice A1 l1 c1])),.tup2 (.p (natP (b))) (.eq (.int .i64 0)),.tup2 (.p (natP (b))) (.eq (.int .i64 0)),.val (.p (natP (b))),.val (.eq (.int .i64 0)),.new 34 (.slice none 0 0),.set 9 34 (natC (b))] [(10,9)] (by kernel_rfl) rfl (by kernel_rfl) (by kernel_rfl) (by kernel_rfl) ?_ ?_
 · intro i hi
   match i,hi with
   | 0,_=>
     intro u wx S o ho hE hr hd hw
     injection (ho:some _=some o)with ho
     subst ho
     have hEx:Ext W wx:=hE.undrew
     simp only[fr,dstOf]
     go_simp
     go_wp2
     first | exact⟨Upd.refl _ _,rfl⟩ | exact⟨_,rfl,Upd.refl _ _,rfl⟩
   | 1,_=>
     intro u wx S o ho hE hr hd hw
     injection (ho:some _=some o)with ho
     subst ho
     have hEx:Ext W wx:=hE.undrew
     have f0:u 0=.pointer (some ⟨gr,0,none⟩):=hw 0 (by omega) (by kernel_rfl) (by simp)
     simp only[fr,dstOf]
     go_simp
     go_wp2
     first | exact⟨Upd.refl _ _,rfl⟩ | exact⟨_,rfl,Upd.refl _ _,rfl⟩
   | 2,_=>
     intro u wx S o ho hE hr hd hw
     injection (ho:some _=some o)with ho
     subst ho
     have hEx:Ext W wx:=hE.undrew
     have f1:u 1=.pointer (some ⟨gr,0,none⟩):=hw 1 (by omega) (by kernel_rfl) (by simp)
     simp only[fr,dstOf]
     go_simp
     go_wp2
     first | exact⟨Upd.refl _ _,rfl⟩ | exact⟨_,rfl,Upd.refl _ _,rfl⟩
   | 3,_=>
     intro u wx S o ho hE hr hd hw
     injection (ho:some _=some o)with ho
     subst ho
     have hEx:Ext W wx:=hE.undrew
     have f2:u 2=.pointer (some ⟨gr,0,none⟩):=hw 2 (by omega) (by kernel_rfl) (by simp)
     have cx:=hEx.cellv y0
     simp only[fr,dstOf]
     go_simp
     go_wp2
     first | exact⟨Upd.refl _ _,rfl⟩ | exact⟨_,rfl,Upd.refl _ _,rfl⟩
   | 4,_=>
     intro u wx S o ho hE hr hd hw
     injection (ho:some _=some o)with ho
     subst ho
     have hEx:Ext W wx:=hE.undrew
     have cx:=(b3.ext hEx).cell
     simp only[fr,dstOf]
     go_simp
     go_wp2
     first | exact⟨Upd.refl _ _,rfl⟩ | exact⟨_,rfl,Upd.refl _ _,rfl⟩
   | 5,_=>
     intro u wx S o ho hE hr hd hw
     injection (ho:some _=some o)with ho
     subst ho
     have hEx:Ext W wx:=hE.undrew
     have f3:u 3=.pointer (some ⟨gp,0,none⟩):=hw 3 (by omega) (by kernel_rfl) (by simp)
     have f4:u 4=.agg #[.slice A1 l1 c1]:=hw 4 (by omega) (by kernel_rfl) (by simp)
     simp only[fr,dstOf]
     go_simp
     go_wp2_with fail
     refine(minv_any _ gp a b P k _ (hR.ext hEx) (hV.ext (hE0.trans hEx)) hFa hP hk hk1 hb hab).mono ?_
     rintro e wn ⟨A20,l20,c20,rfl,hVn,hU⟩
     go_wp2_with fail
     exact⟨_,rfl,hU.mono (fun _ _ h=>h.elim),_,_,rfl,⟨_,_,_,rfl,hVn⟩,rfl⟩
   | 6,_=>
     intro u wx S o ho hE hr hd hw
     injection (ho:some _=some o)with ho
     subst ho
     have hEx:Ext W wx:=hE.undrew
     obtain⟨_,_,f5,⟨aA5_0,aL5_0,aC5_0,rfl,hV5_0⟩,rfl⟩:FG.J 5 (.tup2 (.p (natP (b))) (.eq (.int .i64 0))) u wx (S 5):=hw 5 (by omega) (by kernel_rfl) (by simp)
     simp only[fr,dstOf]
     go_simp
     go_wp2
     first | exact⟨Upd.refl _ _,_,_,rfl,⟨_,_,_,rfl,hV5_0⟩,rfl⟩ | exact⟨_,rfl,Upd.refl _ _,_,_,rfl,⟨_,_,_,rfl,hV5_0⟩,rfl⟩
   | 7,_=>
     intro u wx S o ho hE hr hd hw
     injection (ho:some _=some o)with ho
     subst ho
     have hEx:Ext W wx:=hE.undrew
     obtain⟨_,_,f6,⟨aA6_0,aL6_0,aC6_0,rfl,hV6_0⟩,rfl⟩:FG.J 6 (.tup2 (.p (natP (b))) (.eq (.int .i64 0))) u wx (S 6):=hw 6 (by omega) (by kernel_rfl) (by simp)
     simp only[fr,dstOf]
     go_simp
     go_wp2
     first | exact⟨Upd.refl _ _,aA6_0,aL6_0,aC6_0,rfl,hV6_0⟩ | exact⟨_,rfl,Upd.refl _ _,aA6_0,aL6_0,aC6_0,rfl,hV6_0⟩
   | 8,_=>
     intro u wx S o ho hE hr hd hw
     injection (ho:some _=some o)with ho
     subst ho
     have hEx:Ext W wx:=hE.undrew
     obtain⟨_,_,f6,⟨aA6_0,aL6_0,aC6_0,rfl,hV6_0⟩,rfl⟩:FG.J 6 (.tup2 (.p (natP (b))) (.eq (.int .i64 0))) u wx (S 6):=hw 6 (by omega) (by kernel_rfl) (by simp)
     simp only[fr,dstOf]
     go_simp
     go_wp2
     first | exact⟨Upd.refl _ _,rfl⟩ | exact⟨_,rfl,Upd.refl _ _,rfl⟩
   | 9,_=>
     intro u wx S o ho hE hr hd hw
     injection (ho:some _=some o)with ho
     subst ho
     have hEx:Ext W wx:=hE.undrew
     simp only[fr,dstOf]
     go_simp
     go_wp2
     first | exact⟨(Upd.refl _ _).alloc _,wx.heap.size,rfl,Bx.new _ _ _,⟨Nat.le_refl _,by first | exact Nat.lt_succ_self _ | simp⟩,fun b hb=>by first | omega | (simp at hb;omega)⟩ | exact⟨_,rfl,(Upd.refl _ _).alloc _,wx.heap.size,rfl,Bx.new _ _ _,⟨Nat.le_refl _,by first | exact Nat.lt_succ_self _ | simp⟩,fun b hb=>by first | omega | (simp at hb;omega)⟩
   | 10,_=>
     intro u wx S o ho hE hr hd hw
     injection (ho:some _=some o)with ho
     subst ho
     have hEx:Ext W wx:=hE.undrew
     obtain⟨aA7,aL7,aC7,f7,hV7⟩:FG.J 7 (.val (.p (natP (b)))) u wx (S 7):=hw 7 (by omega) (by kernel_rfl) (by simp)
     obtain⟨g9,f9,hb9,hs9,hall9⟩:FG.J 9 (.new 34 (.slice none 0 0)) u wx (S 9):=hw 9 (by omega) (by kernel_rfl) (by simp)
     have cg9:=hb9.cell
     have fg9:=hb9.frozen
     simp only[fr,dstOf]
     go_simp
     go_wp2
     first | exact⟨(Upd.refl _ _).setCell (p:=⟨g9,0,none⟩) (.inl hs9) _,undef,g9,_,(updf_ne u _ (by decide)).trans f9,hb9.set _,.inr hs9,⟨_,_,_,rfl,hV7.far cg9⟩⟩ | exact⟨undef,(Upd.refl _ _).setCell (p:=⟨g9,0,none⟩) (.inl hs9) _,g9,_,(updf_ne u _ (by decide)).trans f9,hb9.set _,.inr hs9,⟨_,_,_,rfl,hV7.far cg9⟩⟩ | exact⟨trivial,(Upd.refl _ _).setCell (p:=⟨g9,0,none⟩) (.inl hs9) _,undef,g9,_,(updf_ne u _ (by decide)).trans f9,hb9.set _,.inr hs9,⟨_,_,_,rfl,hV7.far cg9⟩⟩
   | k+11,h=>exact absurd h (by omega)
 · intro u wx S hE hw hrg hdj
   have hEx:Ext W wx:=hE.undrew
   have f0:u 0=.pointer (some ⟨gr,0,none⟩):=hw 0 (by omega) (by simp)
   have f1:u 1=.pointer (some ⟨gr,0,none⟩):=hw 1 (by omega) (by simp)
   have f2:u 2=.pointer (some ⟨gr,0,none⟩):=hw 2 (by omega) (by simp)
   have f3:u 3=.pointer (some ⟨gp,0,none⟩):=hw 3 (by omega) (by simp)
   have f4:u 4=.agg #[.slice A1 l1 c1]:=hw 4 (by omega) (by simp)
   obtain⟨_,_,f5,⟨aA5_0,aL5_0,aC5_0,rfl,hV5_0⟩,rfl⟩:FG.J 5 (.tup2 (.p (natP (b))) (.eq (.int .i64 0))) u wx (S 5):=hw 5 (by omega) (by simp)
   obtain⟨_,_,f6,⟨aA6_0,aL6_0,aC6_0,rfl,hV6_0⟩,rfl⟩:FG.J 6 (.tup2 (.p (natP (b))) (.eq (.int .i64 0))) u wx (S 6):=hw 6 (by omega) (by simp)
   obtain⟨aA7,aL7,aC7,f7,hV7⟩:FG.J 7 (.val (.p (natP (b)))) u wx (S 7):=hw 7 (by omega) (by simp)
   have f8:u 8=.int .i64 0:=hw 8 (by omega) (by simp)
   obtain⟨g10,_,f9,hb10,hs10,⟨aA10,aL10,aC10,rfl,hV10⟩⟩:FG.J 10 (.set 9 34 (natC (b))) u wx (S 10):=hw 10 (by omega) (by simp)
   simp only[fr,dstOf]
   go_simp
   have b5:Box wx g10 34 (.slice aA10 aL10 aC10):=Box.bx hb10
   have b4':=b4.ext hEx
   have q5:=b5.cell
   have q4:=b4'.cell
   have f4x:=b4'.frozen
   have hEw:=hE0.trans hEx
   clear hw hrg hdj
   go_wp2_with fail
   have q:=(b4'.set (.slice aA10 aL10 aC10)).cell
   exact bodyPost_ret (v:=.agg #[.slice aA10 aL10 aC10]) (by simp[results,Tryz.results117,go_sem,q]) rfl ⟨_,_,_,rfl,hV10.far q4,hEw.setCell (p:=⟨w.heap.size+1,0,none⟩) (.inr (by simp)) _⟩
set_option maxRecDepth 100000 in
set_option maxHeartbeats 1000000 in
theorem dwidth_any (h:GrpV w gr P Q G H) (hQ:Fit k Q) (hk:k≤1000000):Calls Tryz.prog 56 #[.pointer (some ⟨gr,0,none⟩)] w fun e w'=>e=.returned (.int .i64 (byteSz Q:Nat))∧Ext w w':=by
  have hbl:=byteSz_le hQ
  obtain⟨z,hz⟩:∃z,z=byteSz Q:=⟨_,rfl⟩
  obtain⟨Y,hY⟩:∃Y,Y=2*byteSz Q:=⟨_,rfl⟩
  rw[←hz]
  have h2:(Y:Int) / 2=(z:Int):=by omega
  have h3:(Y:Int).tdiv 2=(z:Int):=by rw[Int.tdiv_eq_ediv_of_nonneg (by omega)];exact h2
  have hzm:z≤4*k:=by omega
  have HY:=hide hY
  clear hz hY hbl
  go_enter Tryz.func56,Tryz.ntmps56
  go_wp2_with fail
  refine(ssize_any gr P Q G H k _ h hQ hk).mono ?_
  rw[←HY.out]
  rintro e w1 ⟨rfl,hU⟩
  go_wp2_with fail
  go_ret
  exact⟨rfl,hU⟩
set_option maxRecDepth 100000 in
set_option maxHeartbeats 2000000 in
theorem dmembers_any (A:Option Addr) (n c:Nat) (ns:List Nat) (h:GrpV w gr P Q G H) (hL:NatL w A ns) (hn:ns.length=n) (hnm:n≤1000) (hF:∀i,i<n→Fit k (gat ns i)) (hP:Fit k P) (hQ:Fit k Q) (hk:k≤50000) (hk1:1≤k):
 Calls Tryz.prog 54 #[.pointer (some ⟨gr,0,none⟩),.slice A n c] w fun e w'=>e=.returned (.bool (ns.all (memB P Q)))∧Ext w w':=by
 have HL:=hide hL
 have Hn:=hide hn
 have HF:=hide hF
 obtain⟨t,ht⟩:∃t,t=ns.all (memB P Q):=⟨_,rfl⟩
 rw[←ht]
 have Ht:=hide ht
 clear hL hn hF ht
 go_enter Tryz.func54,Tryz.ntmps54
 go_wp2_with fail
 go_loopw [9,6] (fun i v wx=>∃j:Nat,j≤n∧i=.int .i64 (j:Int)∧Hid (∀q,q<j→memB P Q (gat ns q)=true)∧Ext w wx) (fun i _ _=>n - (intOf i).toNat)
 case atStart=>exact⟨0,Nat.zero_le _,rfl,hide (fun q hq=>absurd hq (by omega)),Upd.refl _ _⟩
 case round=>
  obtain⟨j,hj,rfl,hall,hE⟩:=hrel
  by_cases hlt:j<n
  case neg=>
   obtain rfl:n=j:=by omega
   have hlti:¬((n:Int)<(n:Int)):=by omega
   obtain rfl:t=true:=by
    rw[Ht.out,List.all_eq_true]
    intro x hx
    obtain⟨i,hi,rfl⟩:=List.getElem_of_mem hx
    rw[←gat_lt hi]
    exact hall.out i (by rw[←Hn.out];exact hi)
   go_wp2_with fail
   go_ret
   exact⟨rfl,hE⟩
  case pos=>
   have hlti:(j:Int)<n:=by omega
   obtain⟨b,o,B1,m1,d1,rfl,q0,hVj⟩:=(HL.out.ext hE).at (i:=j) (by rw[Hn.out];exact hlt)
   have hFj:=HF.out j hlt
   obtain⟨x,hx⟩:∃x,x=gat ns j:=⟨_,rfl⟩
   rw[←hx]at hVj hFj
   have Hx:=hide hx
   clear hx
   have q1:=(Box.new wr 34 (.slice B1 m1 d1)).cell
   go_wp2_with fail
   clear q1
   refine name_c (fun V hV=>?_)
   have hEV:Ext wr V:=by rw[hV];exact(Upd.refl _ _).alloc _
   clear hV
   refine(gMember_any gr P Q G H k V _ x (h.ext (hE.trans hEV)) (hVj.ext hEV) hFj hP hQ hk hk1).mono ?_
   rintro e v1 ⟨rfl,hU1⟩
   have hE1:=(hE.trans hEV).trans hU1
   cases hm:memB P Q x with
   | false=>
     obtain rfl:t=false:=by
      rw[Ht.out,List.all_eq_false]
      exact⟨gat ns j,by rw[gat_lt (by rw[Hn.out];exact hlt)];exact List.getElem_mem _,by rw[←Hx.out,hm];decide⟩
     go_wp2_with fail
     go_ret
     exact⟨rfl,hE1⟩
   | true=>
     go_wp2_with fail
     go_roundw
     case rel=>
      refine⟨j+1,by omega,by go_num,hide (fun q hq=>?_),hE1⟩
      by_cases hqj:q<j
      · exact hall.out q hqj
      · obtain rfl:q=j:=by omega
        rw[←Hx.out];exact hm
     case measure=>simp[intOf];omega
end
end Go.Proofs.YtdohmikoafkniaaGreat
