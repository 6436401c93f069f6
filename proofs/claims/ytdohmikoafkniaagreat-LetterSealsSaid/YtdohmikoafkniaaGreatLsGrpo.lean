/- Merged: GrpN GrpQ GrpO. -/
import Derived.Test.YtdohmikoafkniaaGreatLsGrpe
namespace Go.Proofs.YtdohmikoafkniaaGreat
set_option linter.unusedSimpArgs false
set_option linter.unusedVariables false
/- A group, walked: its bases, its size, bytes and members of bytes; what none answers; the document's group of a group. -/
section
open Go.RowKit
open Nt
attribute [local go_sem] steady steadyUpon Cls same_cell
attribute [local irreducible] wpHead wpTree wpHeadR
section
variable (gr P Q G H k : Nat) (w : World)
set_option maxRecDepth 100000 in
set_option maxHeartbeats 1000000 in
theorem gG_any (h:GrpV w gr P Q G H):Calls Tryz.prog 24 #[.pointer (some ⟨gr,0,none⟩)] w (RetN w G):=by
 obtain⟨gp,gq,A1,l1,c1,A2,l2,c2,h1,h2,h3,h4,h5⟩:=h
 go_enter Tryz.func24,Tryz.ntmps24
 have b1:Box (w.alloc (.cells #[.slice none 0 0] 34)) w.heap.size 34 (.slice none 0 0):=Box.new _ _ _
 have hE:Ext w (w.alloc (.cells #[.slice none 0 0] 34)):=(by repeat (first | (with_reducible exact Upd.refl _ _) | (with_reducible assumption) | (refine Upd.setCell ?_ (.inr (by first | exact Nat.le_refl _ | (dsimp only;omega) | (simp;done) | (simp;omega))) _) | (with_reducible refine Upd.alloc ?_ _) | (with_reducible refine Upd.drew ?_) | (with_reducible refine Upd.trans ?_ (by with_reducible assumption))))
 have c0:(w.alloc (.cells #[.slice none 0 0] 34)).cell? ⟨gr,2,none⟩=some (.slice A1 l1 c1):=(h1.ext hE).at 2 rfl
 have q2:=b1.cell
 have q3:=b1.frozen
 go_wp2_with fail
 have q:=(Box.new w 34 (.slice A1 l1 c1)).cell
 exact bodyPost_ret (v:=.agg #[.slice A1 l1 c1]) (by simp[results,Tryz.results24,go_sem,q]) rfl ⟨_,_,_,rfl,h4.ext ((Upd.refl _ _).alloc _),(Upd.refl _ _).alloc _⟩
set_option maxRecDepth 100000 in
set_option maxHeartbeats 1000000 in
theorem gH_any (h:GrpV w gr P Q G H):Calls Tryz.prog 49 #[.pointer (some ⟨gr,0,none⟩)] w (RetN w H):=by
 obtain⟨gp,gq,A1,l1,c1,A2,l2,c2,h1,h2,h3,h4,h5⟩:=h
 go_enter Tryz.func49,Tryz.ntmps49
 have b1:Box (w.alloc (.cells #[.slice none 0 0] 34)) w.heap.size 34 (.slice none 0 0):=Box.new _ _ _
 have hE:Ext w (w.alloc (.cells #[.slice none 0 0] 34)):=(by repeat (first | (with_reducible exact Upd.refl _ _) | (with_reducible assumption) | (refine Upd.setCell ?_ (.inr (by first | exact Nat.le_refl _ | (dsimp only;omega) | (simp;done) | (simp;omega))) _) | (with_reducible refine Upd.alloc ?_ _) | (with_reducible refine Upd.drew ?_) | (with_reducible refine Upd.trans ?_ (by with_reducible assumption))))
 have c0:(w.alloc (.cells #[.slice none 0 0] 34)).cell? ⟨gr,3,none⟩=some (.slice A2 l2 c2):=(h1.ext hE).at 3 rfl
 have q2:=b1.cell
 have q3:=b1.frozen
 go_wp2_with fail
 have q:=(Box.new w 34 (.slice A2 l2 c2)).cell
 exact bodyPost_ret (v:=.agg #[.slice A2 l2 c2]) (by simp[results,Tryz.results49,go_sem,q]) rfl ⟨_,_,_,rfl,h5.ext ((Upd.refl _ _).alloc _),(Upd.refl _ _).alloc _⟩
set_option maxRecDepth 100000 in
set_option maxHeartbeats 1000000 in
theorem gBytes_none (s:Value) (hs:s.oneCell'=true):Calls Tryz.prog 57 #[.pointer none,.agg #[s]] w fun e w'=>e=.returned (.tuple #[.slice none 0 0,.int .i64 1])∧Ext w w':=by
  go_enter Tryz.func57,Tryz.ntmps57
  go_wp2_with fail
  refine bodyPost_ret (v:=.tuple #[.slice none 0 0,.int .i64 1]) ?_ rfl ⟨rfl,(Upd.refl _ w).alloc _⟩
  simp[results,Tryz.results57,go_sem]
end
/-! ### numbers as the document's -/
set_option maxRecDepth 100000 in
set_option maxHeartbeats 1000000 in
theorem gnum_any (v:Value) (n k:Nat) (w:World) (hV:NatV w v n) (hF:Fit k n) (hk:k≤100000):Calls Tryz.prog 20 #[v] w (RetR w n):=by
 obtain⟨A,la,ca,xs,rfl, -⟩:=hV.open_
 go_enter Tryz.func20,Tryz.ntmps20
 go_wp2_with fail
 refine(least_any _ n k _ (hV.ext (by repeat (first | (with_reducible exact Upd.refl _ _) | (with_reducible assumption) | (refine Upd.setCell ?_ (.inr (by first | exact Nat.le_refl _ | (dsimp only;omega) | (simp;done) | (simp;omega))) _) | (with_reducible refine Upd.alloc ?_ _) | (with_reducible refine Upd.drew ?_) | (with_reducible refine Upd.trans ?_ (by with_reducible assumption))))) hF (by omega)).mono ?_
 rintro e w1 ⟨A1,c1,rfl,hl,hO,hU⟩
 have hE:Ext w w1:=(by repeat (first | (with_reducible exact Upd.refl _ _) | (with_reducible assumption) | (refine Upd.setCell ?_ (.inr (by first | exact Nat.le_refl _ | (dsimp only;omega) | (simp;done) | (simp;omega))) _) | (with_reducible refine Upd.alloc ?_ _) | (with_reducible refine Upd.drew ?_) | (with_reducible refine Upd.trans ?_ (by with_reducible assumption))))
 have hS:=hO.sl
 have hb:=bytelen_le hF
 have hof:ofB (toB n (bytelen n))=n:=ofB_toB n _ (bytelen_le_iff.1 (Nat.le_refl _))
 have Hof:=hide hof
 clear hU hO hof
 go_wp2_with fail
 refine(rof_any A1 _ c1 (toB n (bytelen n)) _ hl (by omega) hS).mono ?_
 rw[Hof.out]
 rintro e w2 ⟨A2,l2,c2,rfl,hV2,hU2⟩
 have hE2:=hE.trans hU2
 clear hS hl hU2 hE
 go_wp2_with fail
 go_ret
 exact⟨_,_,_,rfl,hV2,hE2⟩
def RGrpV (w:World) (v:Value) (P Q G H:Nat):Prop:=∃A1 l1 c1 A2 l2 c2 A3 l3 c3 A4 l4 c4,v=.agg #[.slice A1 l1 c1,.slice A2 l2 c2,.slice A3 l3 c3,.slice A4 l4 c4]∧RefV w (.slice A1 l1 c1) P∧RefV w (.slice A2 l2 c2) Q∧RefV w (.slice A3 l3 c3) G∧RefV w (.slice A4 l4 c4) H
theorem RGrpV.ext {w w':World} {v:Value} {P Q G H:Nat} (h:RGrpV w v P Q G H) (hu:Ext w w'):RGrpV w' v P Q G H:=by
 obtain⟨A1,l1,c1,A2,l2,c2,A3,l3,c3,A4,l4,c4,e,h1,h2,h3,h4⟩:=h
 exact⟨A1,l1,c1,A2,l2,c2,A3,l3,c3,A4,l4,c4,e,h1.ext hu,h2.ext hu,h3.ext hu,h4.ext hu⟩
def RetRG (w:World) (P Q G H:Nat) (e:Ending) (w':World):Prop:=∃v,e=.returned v∧RGrpV w' v P Q G H∧Ext w w'
theorem RefV.far {w:World} {s:Value} {n:Nat} {p:Addr} {A:Option Addr} {l c:Nat} {v:Value} (h:RefV w s n) (hc:w.cell? p=some (.slice A l c)):RefV (w.setCell p v) s n:=
 NumS.far h hc (fun x e=>by cases e)
theorem ref4 {w:World} {g:Nat} {t:TypeId} {s:Value} {n:Nat} {a0 a1 a2 a3 b0 b1 b2 b3:Option Addr} {l0 l1 l2 l3 c0 c1 c2 c3 m0 m1 m2 m3 d0 d1 d2 d3:Nat} (h:RefV w s n) (hb:Blk w g t #[.slice a0 l0 c0,.slice a1 l1 c1,.slice a2 l2 c2,.slice a3 l3 c3]):
 RefV ((((w.setCell ⟨g,0,none⟩ (.slice b0 m0 d0)).setCell ⟨g,1,none⟩ (.slice b1 m1 d1)).setCell ⟨g,2,none⟩ (.slice b2 m2 d2)).setCell ⟨g,3,none⟩ (.slice b3 m3 d3)) s n:=by
 have h1:=h.far (v:=.slice b0 m0 d0) (hb.at 0 rfl)
 have hb1:=hb.set 0 (.slice b0 m0 d0)
 have h2:=h1.far (v:=.slice b1 m1 d1) (hb1.at 1 rfl)
 have hb2:=hb1.set 1 (.slice b1 m1 d1)
 have h3:=h2.far (v:=.slice b2 m2 d2) (hb2.at 2 rfl)
 have hb3:=hb2.set 2 (.slice b2 m2 d2)
 exact h3.far (hb3.at 3 rfl)
set_option maxRecDepth 100000 in
set_option maxHeartbeats 2000000 in
theorem gref_any (gr P Q G H k:Nat) (w:World) (h:GrpV w gr P Q G H) (hP:Fit k P) (hQ:Fit k Q) (hG:Fit k G) (hH:Fit k H) (hk:k≤100000):Calls Tryz.prog 10 #[.pointer (some ⟨gr,0,none⟩)] w (RetRG w P Q G H):=by
 have hg:=h
 clear h
 go_enter Tryz.func10,Tryz.ntmps10
 go_wp2_with fail
 refine name_c (fun W hW=>?_)
 have b2:Blk W w.heap.size 30 #[.slice none 0 0,.slice none 0 0,.slice none 0 0,.slice none 0 0]:=by rw[hW];exact Blk.new _ _ _
 have hE:Ext w W:=by rw[hW];exact(Upd.refl _ _).alloc _
 clear hW
 replace hg:=hg.ext hE
 refine(gP_any gr P Q G H _ hg).mono ?_
 rintro e w1 ⟨A1,l1,c1,rfl,hV1,hU1⟩
 go_wp2_with fail
 refine(gnum_any _ P k _ hV1 hP hk).mono ?_
 rintro e w2 ⟨A2,l2,c2,rfl,hR2,hU2⟩
 have hg2:=hg.ext (hU1.trans hU2)
 have hE2:=(hU1.trans hU2)
 clear hV1 hU1 hU2 hg
 go_wp2_with fail
 refine(gField_any gr P Q G H _ hg2).mono ?_
 rintro e w3 ⟨gq,rfl,hRg,rfl⟩
 go_wp2_with fail
 refine(mmod_any gq Q _ hRg).mono ?_
 rintro e w3 ⟨A3,l3,c3,rfl,hV3,hU3⟩
 go_wp2_with fail
 refine(gnum_any _ Q k _ hV3 hQ hk).mono ?_
 rintro e w4 ⟨A4,l4,c4,rfl,hR4,hU4⟩
 have hg4:=hg2.ext (hU3.trans hU4)
 have hR2':=hR2.ext (hU3.trans hU4)
 have hE4:=hE2.trans (hU3.trans hU4)
 clear hV3 hU3 hU4 hg2 hRg hR2 hE2
 go_wp2_with fail
 refine(gG_any gr P Q G H _ hg4).mono ?_
 rintro e w5 ⟨A5,l5,c5,rfl,hV5,hU5⟩
 go_wp2_with fail
 refine(gnum_any _ G k _ hV5 hG hk).mono ?_
 rintro e w6 ⟨A6,l6,c6,rfl,hR6,hU6⟩
 have hg6:=hg4.ext (hU5.trans hU6)
 have hR2:=hR2'.ext (hU5.trans hU6)
 have hR4':=hR4.ext (hU5.trans hU6)
 have hE6:=hE4.trans (hU5.trans hU6)
 clear hV5 hU5 hU6 hg4 hR4 hR2' hE4
 go_wp2_with fail
 refine(gH_any gr P Q G H _ hg6).mono ?_
 rintro e w7 ⟨A7,l7,c7,rfl,hV7,hU7⟩
 go_wp2_with fail
 refine(gnum_any _ H k _ hV7 hH hk).mono ?_
 rintro e w8 ⟨A8,l8,c8,rfl,hR8,hU8⟩
 have hEE:=hE6.trans (hU7.trans hU8)
 have bb:=b2.ext hEE
 have y0:=bb.at 0 rfl
 have y1:=bb.at 1 rfl
 have y2:=bb.at 2 rfl
 have y3:=bb.at 3 rfl
 have x0:=bb.frozen 0
 have x1:=bb.frozen 1
 have x2:=bb.frozen 2
 have x3:=bb.frozen 3
 have n1:=ref4 (b0:=A2) (m0:=l2) (d0:=c2) (b1:=A4) (m1:=l4) (d1:=c4) (b2:=A6) (m2:=l6) (d2:=c6) (b3:=A8) (m3:=l8) (d3:=c8) (hR2.ext (hU7.trans hU8)) bb
 have n2:=ref4 (b0:=A2) (m0:=l2) (d0:=c2) (b1:=A4) (m1:=l4) (d1:=c4) (b2:=A6) (m2:=l6) (d2:=c6) (b3:=A8) (m3:=l8) (d3:=c8) (hR4'.ext (hU7.trans hU8)) bb
 have n3:=ref4 (b0:=A2) (m0:=l2) (d0:=c2) (b1:=A4) (m1:=l4) (d1:=c4) (b2:=A6) (m2:=l6) (d2:=c6) (b3:=A8) (m3:=l8) (d3:=c8) (hR6.ext (hU7.trans hU8)) bb
 have n4:=ref4 (b0:=A2) (m0:=l2) (d0:=c2) (b1:=A4) (m1:=l4) (d1:=c4) (b2:=A6) (m2:=l6) (d2:=c6) (b3:=A8) (m3:=l8) (d3:=c8) hR8 bb
 have hB4:=blk4 bb (.slice A2 l2 c2) (.slice A4 l4 c4) (.slice A6 l6 c6) (.slice A8 l8 c8)
 have hE9:=ext4 (hE.trans hEE) (Nat.le_refl _) (.slice A2 l2 c2) (.slice A4 l4 c4) (.slice A6 l6 c6) (.slice A8 l8 c8)
 clear hV7 hU7 hU8 hg6 hR2 hR4' hE6 hR6 hR8 bb b2 hE hEE
 go_wp2_with fail
 have q0:=hB4.at 0 rfl
 have q1:=hB4.at 1 rfl
 have q2:=hB4.at 2 rfl
 have q3:=hB4.at 3 rfl
 refine bodyPost_ret (v:=.agg #[.slice A2 l2 c2,.slice A4 l4 c4,.slice A6 l6 c6,.slice A8 l8 c8]) ?_ rfl ⟨_,rfl,⟨A2,l2,c2,A4,l4,c4,A6,l6,c6,A8,l8,c8,rfl,n1,n2,n3,n4⟩,hE9⟩
 simp[results,Tryz.results10,go_sem,q0,q1,q2,q3]
end
/- A group, walked: Challenge. -/
section
open Go.RowKit
open Nt Sha
attribute [local go_sem] steady steadyUpon Cls same_cell anyW
attribute [local irreducible] wpHead wpTree wpHeadR
end
/- The document's challenge, walked. -/
section
open Go.RowKit
open Nt Sha
attribute [local go_sem] steady steadyUpon Cls same_cell anyW
attribute [local irreducible] wpHead wpTree wpHeadR
end
end Go.Proofs.YtdohmikoafkniaaGreat
