/- Merged: GrpN GrpQ GrpO. -/
import Derived.Test.YtbhhjfhepkbfgaaGreatWsGrpe
namespace Go.Proofs.YtbhhjfhepkbfgaaGreat
set_option linter.unusedSimpArgs false
set_option linter.unusedVariables false
/- A group, walked: its bases, its size, bytes and members of bytes; what none answers; the document's group of a group. -/
section
open Go.RowKit
open Nt
attribute [local go_sem] steady steadyUpon Cls same_cell
attribute [local irreducible] wpHead wpTree
section
variable (gr P Q G H k : Nat) (w : World)
set_option maxRecDepth 100000 in
set_option maxHeartbeats 1000000 in
theorem gG_any (h:GrpV w gr P Q G H):Calls Tryz.prog 26 #[.pointer (some ⟨gr,0,none⟩)] w (RetN w G):=by
 obtain⟨gp,gq,A1,l1,c1,A2,l2,c2,h1,h2,h3,h4,h5⟩:=h
 go_enter Tryz.func26,Tryz.ntmps26
 have b1:Box (w.alloc (.cells #[.slice none 0 0] 39)) w.heap.size 39 (.slice none 0 0):=Box.new _ _ _
 have hE:Ext w (w.alloc (.cells #[.slice none 0 0] 39)):=(by repeat (first | (with_reducible exact Upd.refl _ _) | (with_reducible assumption) | (refine Upd.setCell ?_ (.inr (by first | exact Nat.le_refl _ | (dsimp only;omega) | (simp;done) | (simp;omega))) _) | (with_reducible refine Upd.alloc ?_ _) | (with_reducible refine Upd.drew ?_) | (with_reducible refine Upd.trans ?_ (by with_reducible assumption))))
 have c0:(w.alloc (.cells #[.slice none 0 0] 39)).cell? ⟨gr,2,none⟩=some (.slice A1 l1 c1):=(h1.ext hE).at 2 rfl
 have q2:=b1.cell
 have q3:=b1.frozen
 go_wp2_with fail
 have q:=(Box.new w 39 (.slice A1 l1 c1)).cell
 exact bodyPost_ret (v:=.agg #[.slice A1 l1 c1]) (by simp[results,Tryz.results26,go_sem,q]) rfl ⟨_,_,_,rfl,h4.ext ((Upd.refl _ _).alloc _),(Upd.refl _ _).alloc _⟩
set_option maxRecDepth 100000 in
set_option maxHeartbeats 1000000 in
theorem gH_any (h:GrpV w gr P Q G H):Calls Tryz.prog 27 #[.pointer (some ⟨gr,0,none⟩)] w (RetN w H):=by
 obtain⟨gp,gq,A1,l1,c1,A2,l2,c2,h1,h2,h3,h4,h5⟩:=h
 go_enter Tryz.func27,Tryz.ntmps27
 have b1:Box (w.alloc (.cells #[.slice none 0 0] 39)) w.heap.size 39 (.slice none 0 0):=Box.new _ _ _
 have hE:Ext w (w.alloc (.cells #[.slice none 0 0] 39)):=(by repeat (first | (with_reducible exact Upd.refl _ _) | (with_reducible assumption) | (refine Upd.setCell ?_ (.inr (by first | exact Nat.le_refl _ | (dsimp only;omega) | (simp;done) | (simp;omega))) _) | (with_reducible refine Upd.alloc ?_ _) | (with_reducible refine Upd.drew ?_) | (with_reducible refine Upd.trans ?_ (by with_reducible assumption))))
 have c0:(w.alloc (.cells #[.slice none 0 0] 39)).cell? ⟨gr,3,none⟩=some (.slice A2 l2 c2):=(h1.ext hE).at 3 rfl
 have q2:=b1.cell
 have q3:=b1.frozen
 go_wp2_with fail
 have q:=(Box.new w 39 (.slice A2 l2 c2)).cell
 exact bodyPost_ret (v:=.agg #[.slice A2 l2 c2]) (by simp[results,Tryz.results27,go_sem,q]) rfl ⟨_,_,_,rfl,h5.ext ((Upd.refl _ _).alloc _),(Upd.refl _ _).alloc _⟩
end
/-! ### numbers as the document's -/
set_option maxRecDepth 100000 in
set_option maxHeartbeats 1000000 in
theorem gnum_any (v:Value) (n k:Nat) (w:World) (hV:NatV w v n) (hF:Fit k n) (hk:k≤100000):Calls Tryz.prog 21 #[v] w (RetR w n):=by
 obtain⟨A,la,ca,xs,rfl, -⟩:=hV.open_
 go_enter Tryz.func21,Tryz.ntmps21
 go_wp2_with fail
 refine(least_any _ n k _ (hV.ext (by repeat (first | (with_reducible exact Upd.refl _ _) | (with_reducible assumption) | (refine Upd.setCell ?_ (.inr (by first | exact Nat.le_refl _ | (dsimp only;omega) | (simp;done) | (simp;omega))) _) | (with_reducible refine Upd.alloc ?_ _) | (with_reducible refine Upd.drew ?_) | (with_reducible refine Upd.trans ?_ (by with_reducible assumption))))) hF (by omega)).mono ?_
 rintro e w1 ⟨A1,c1,rfl,hl,hO,hU⟩
 have hE:Ext w w1:=(by repeat (first | (with_reducible exact Upd.refl _ _) | (with_reducible assumption) | (refine Upd.setCell ?_ (.inr (by first | exact Nat.le_refl _ | (dsimp only;omega) | (simp;done) | (simp;omega))) _) | (with_reducible refine Upd.alloc ?_ _) | (with_reducible refine Upd.drew ?_) | (with_reducible refine Upd.trans ?_ (by with_reducible assumption))))
 have hS:=hO.sl
 have hb:=bytelen_le hF
 have hof:ofB (toB n (bytelen n))=n:=ofB_toB n _ (bytelen_le_iff.1 (Nat.le_refl _))
 have Hof:=hide hof
 clear hU hO hof
 go_wp2_with fail
 refine(rof_any A1 _ c1 (toB n (bytelen n)) _ hl (by omega) hS).mono ?_
 rw[Hof.out]
 rintro e w2 ⟨A2,l2,c2,rfl,hV2,hU2⟩
 have hE2:=hE.trans hU2
 clear hS hl hU2 hE
 go_wp2_with fail
 go_ret
 exact⟨_,_,_,rfl,hV2,hE2⟩
def RGrpV (w:World) (v:Value) (P Q G H:Nat):Prop:=∃A1 l1 c1 A2 l2 c2 A3 l3 c3 A4 l4 c4,v=.agg #[.slice A1 l1 c1,.slice A2 l2 c2,.slice A3 l3 c3,.slice A4 l4 c4]∧RefV w (.slice A1 l1 c1) P∧RefV w (.slice A2 l2 c2) Q∧RefV w (.slice A3 l3 c3) G∧RefV w (.slice A4 l4 c4) H
theorem RGrpV.ext {w w':World} {v:Value} {P Q G H:Nat} (h:RGrpV w v P Q G H) (hu:Ext w w'):RGrpV w' v P Q G H:=by
 obtain⟨A1,l1,c1,A2,l2,c2,A3,l3,c3,A4,l4,c4,e,h1,h2,h3,h4⟩:=h
 exact⟨A1,l1,c1,A2,l2,c2,A3,l3,c3,A4,l4,c4,e,h1.ext hu,h2.ext hu,h3.ext hu,h4.ext hu⟩
def RetRG (w:World) (P Q G H:Nat) (e:Ending) (w':World):Prop:=∃v,e=.returned v∧RGrpV w' v P Q G H∧Ext w w'
theorem RefV.far {w:World} {s:Value} {n:Nat} {p:Addr} {A:Option Addr} {l c:Nat} {v:Value} (h:RefV w s n) (hc:w.cell? p=some (.slice A l c)):RefV (w.setCell p v) s n:=
 NumS.far h hc (fun x e=>by cases e)
theorem ref4 {w:World} {g:Nat} {t:TypeId} {s:Value} {n:Nat} {a0 a1 a2 a3 b0 b1 b2 b3:Option Addr} {l0 l1 l2 l3 c0 c1 c2 c3 m0 m1 m2 m3 d0 d1 d2 d3:Nat} (h:RefV w s n) (hb:Blk w g t #[.slice a0 l0 c0,.slice a1 l1 c1,.slice a2 l2 c2,.slice a3 l3 c3]):
 RefV ((((w.setCell ⟨g,0,none⟩ (.slice b0 m0 d0)).setCell ⟨g,1,none⟩ (.slice b1 m1 d1)).setCell ⟨g,2,none⟩ (.slice b2 m2 d2)).setCell ⟨g,3,none⟩ (.slice b3 m3 d3)) s n:=by
 have h1:=h.far (v:=.slice b0 m0 d0) (hb.at 0 rfl)
 have hb1:=hb.set 0 (.slice b0 m0 d0)
 have h2:=h1.far (v:=.slice b1 m1 d1) (hb1.at 1 rfl)
 have hb2:=hb1.set 1 (.slice b1 m1 d1)
 have h3:=h2.far (v:=.slice b2 m2 d2) (hb2.at 2 rfl)
 have hb3:=hb2.set 2 (.slice b2 m2 d2)
 exact h3.far (hb3.at 3 rfl)
set_option maxRecDepth 100000 in
set_option maxHeartbeats 2000000 in
theorem gref_any (gr P Q G H k:Nat) (w:World) (h:GrpV w gr P Q G H) (hP:Fit k P) (hQ:Fit k Q) (hG:Fit k G) (hH:Fit k H) (hk:k≤100000):Calls Tryz.prog 7 #[.pointer (some ⟨gr,0,none⟩)] w (RetRG w P Q G H):=by
 have hg:=h
 clear h
 go_enter Tryz.func7,Tryz.ntmps7
 go_wp2_with fail
 refine name_c (fun W hW=>?_)
 have b2:Blk W w.heap.size 34 #[.slice none 0 0,.slice none 0 0,.slice none 0 0,.slice none 0 0]:=by rw[hW];exact Blk.new _ _ _
 have hE:Ext w W:=by rw[hW];exact(Upd.refl _ _).alloc _
 clear hW
 replace hg:=hg.ext hE
 refine(gP_any gr P Q G H _ hg).mono ?_
 rintro e w1 ⟨A1,l1,c1,rfl,hV1,hU1⟩
 go_wp2_with fail
 refine(gnum_any _ P k _ hV1 hP hk).mono ?_
 rintro e w2 ⟨A2,l2,c2,rfl,hR2,hU2⟩
 have hg2:=hg.ext (hU1.trans hU2)
 have hE2:=(hU1.trans hU2)
 clear hV1 hU1 hU2 hg
 go_wp2_with fail
 refine(gField_any gr P Q G H _ hg2).mono ?_
 rintro e w3 ⟨gq,rfl,hRg,rfl⟩
 go_wp2_with fail
 refine(mmod_any gq Q _ hRg).mono ?_
 rintro e w3 ⟨A3,l3,c3,rfl,hV3,hU3⟩
 go_wp2_with fail
 refine(gnum_any _ Q k _ hV3 hQ hk).mono ?_
 rintro e w4 ⟨A4,l4,c4,rfl,hR4,hU4⟩
 have hg4:=hg2.ext (hU3.trans hU4)
 have hR2':=hR2.ext (hU3.trans hU4)
 have hE4:=hE2.trans (hU3.trans hU4)
 clear hV3 hU3 hU4 hg2 hRg hR2 hE2
 go_wp2_with fail
 refine(gG_any gr P Q G H _ hg4).mono ?_
 rintro e w5 ⟨A5,l5,c5,rfl,hV5,hU5⟩
 go_wp2_with fail
 refine(gnum_any _ G k _ hV5 hG hk).mono ?_
 rintro e w6 ⟨A6,l6,c6,rfl,hR6,hU6⟩
 have hg6:=hg4.ext (hU5.trans hU6)
 have hR2:=hR2'.ext (hU5.trans hU6)
 have hR4':=hR4.ext (hU5.trans hU6)
 have hE6:=hE4.trans (hU5.trans hU6)
 clear hV5 hU5 hU6 hg4 hR4 hR2' hE4
 go_wp2_with fail
 refine(gH_any gr P Q G H _ hg6).mono ?_
 rintro e w7 ⟨A7,l7,c7,rfl,hV7,hU7⟩
 go_wp2_with fail
 refine(gnum_any _ H k _ hV7 hH hk).mono ?_
 rintro e w8 ⟨A8,l8,c8,rfl,hR8,hU8⟩
 have hEE:=hE6.trans (hU7.trans hU8)
 have bb:=b2.ext hEE
 have y0:=bb.at 0 rfl
 have y1:=bb.at 1 rfl
 have y2:=bb.at 2 rfl
 have y3:=bb.at 3 rfl
 have x0:=bb.frozen 0
 have x1:=bb.frozen 1
 have x2:=bb.frozen 2
 have x3:=bb.frozen 3
 have n1:=ref4 (b0:=A2) (m0:=l2) (d0:=c2) (b1:=A4) (m1:=l4) (d1:=c4) (b2:=A6) (m2:=l6) (d2:=c6) (b3:=A8) (m3:=l8) (d3:=c8) (hR2.ext (hU7.trans hU8)) bb
 have n2:=ref4 (b0:=A2) (m0:=l2) (d0:=c2) (b1:=A4) (m1:=l4) (d1:=c4) (b2:=A6) (m2:=l6) (d2:=c6) (b3:=A8) (m3:=l8) (d3:=c8) (hR4'.ext (hU7.trans hU8)) bb
 have n3:=ref4 (b0:=A2) (m0:=l2) (d0:=c2) (b1:=A4) (m1:=l4) (d1:=c4) (b2:=A6) (m2:=l6) (d2:=c6) (b3:=A8) (m3:=l8) (d3:=c8) (hR6.ext (hU7.trans hU8)) bb
 have n4:=ref4 (b0:=A2) (m0:=l2) (d0:=c2) (b1:=A4) (m1:=l4) (d1:=c4) (b2:=A6) (m2:=l6) (d2:=c6) (b3:=A8) (m3:=l8) (d3:=c8) hR8 bb
 have hB4:=blk4 bb (.slice A2 l2 c2) (.slice A4 l4 c4) (.slice A6 l6 c6) (.slice A8 l8 c8)
 have hE9:=ext4 (hE.trans hEE) (Nat.le_refl _) (.slice A2 l2 c2) (.slice A4 l4 c4) (.slice A6 l6 c6) (.slice A8 l8 c8)
 clear hV7 hU7 hU8 hg6 hR2 hR4' hE6 hR6 hR8 bb b2 hE hEE
 go_wp2_with fail
 have q0:=hB4.at 0 rfl
 have q1:=hB4.at 1 rfl
 have q2:=hB4.at 2 rfl
 have q3:=hB4.at 3 rfl
 refine bodyPost_ret (v:=.agg #[.slice A2 l2 c2,.slice A4 l4 c4,.slice A6 l6 c6,.slice A8 l8 c8]) ?_ rfl ⟨_,rfl,⟨A2,l2,c2,A4,l4,c4,A6,l6,c6,A8,l8,c8,rfl,n1,n2,n3,n4⟩,hE9⟩
 simp[results,Tryz.results7,go_sem,q0,q1,q2,q3]
end
/- A group, walked: Challenge. -/
section
open Go.RowKit
open Nt Sha
attribute [local go_sem] steady steadyUpon Cls same_cell
attribute [local irreducible] wpHead wpTree
def byteAt (n k:Nat):BitVec 8:=BitVec.ofNat 8 (n / 2^(8*k))
def leK (n:Nat):Nat→List (BitVec 8)
 | 0=>[]
 | k+1=>leK n k++[byteAt n k]
theorem leK_length (n:Nat):∀k,(leK n k).length=k
 | 0=>rfl
 | k+1=>by unfold leK;rw[List.length_append,leK_length n k];rfl
def chalB (ps:List Pt):List (BitVec 8):=ps.flatMap fun p=>leK p.n 8++p.bs
theorem chalB_take {ps:List Pt} {k:Nat} (h:k<ps.length):chalB (ps.take k)++(leK (gat ps k).n 8++(gat ps k).bs)=chalB (ps.take (k+1)):=by
 unfold chalB
 rw[List.take_succ_eq_append_getElem h,List.flatMap_append,gat_lt h]
 simp
theorem chalB_le (ps:List Pt) (k:Nat):(chalB (ps.take k)).length≤(chalB ps).length:=by
 have e:chalB ps=chalB (ps.take k)++chalB (ps.drop k):=by unfold chalB;rw[←List.flatMap_append,List.take_append_drop]
 rw[e,List.length_append];omega
theorem byteAt_n8 (n i:Nat):(n:Int) / 2^(8*i) % 256=n8 (byteAt n i):=by
 unfold byteAt n8
 rw[BitVec.toNat_ofNat]
 simp
theorem leK_set (n k:Nat) (h:k<8):(leK n k++List.replicate (8 - k) (default:BitVec 8)).set k (byteAt n k)=leK n (k+1)++List.replicate (8 - (k+1)) default:=by
 obtain⟨j,hj⟩:∃j,8 - k=j+1:=⟨7 - k,by omega⟩
 have hj2:8 - (k+1)=j:=by omega
 rw[hj,hj2,List.replicate_succ,List.set_append,if_neg (by rw[leK_length];omega),leK_length,Nat.sub_self]
 simp[leK]
def chalN (ps:List Pt) (Q:Nat):Nat:=ofB (sum (chalB ps)) % Q
theorem fit_sum (bs:List (BitVec 8)):Fit 8 (ofB (sum bs)):=by
 have h1:=ofB_lt (sum bs)
 rw[sum_length]at h1
 unfold Fit
 exact Nat.lt_of_lt_of_le h1 (by decide)
set_option maxRecDepth 100000 in
set_option maxHeartbeats 4000000 in
theorem gChal_any (gr P Q G H k9:Nat) (A:Option Addr) (n c:Nat) (ps:List Pt) (w:World) (h:GrpV w gr P Q G H) (hP:Pts w A ps) (hn:ps.length=n) (hnm:n≤1000) (hl:(chalB ps).length≤100000000) (hFQ:Fit k9 Q) (hk8:8≤k9) (hk9:k9≤1000000):
 Calls Tryz.prog 101 #[.pointer (some ⟨gr,0,none⟩),.slice A n c] w (RetN w (chalN ps Q)):=by
 have HG:=hide h
 have HP:=hide hP
 have Hn:=hide hn
 have Hl:=hide hl
 clear h hP hn hl
 go_enter Tryz.func101,Tryz.ntmps101
 go_wp2_with fail
 refine name_c (fun W hW=>?_)
 have b4:Box W w.heap.size 39 (.slice none 0 0):=by rw[hW];exact Box.new _ _ _
 have hE:Ext w W:=by rw[hW];exact(Upd.refl _ _).alloc _
 clear hW
 have hBW:w.heap.size<W.heap.size:=b4.lt
 refine(hnew_any W).mono ?_
 rintro e w1 ⟨g,T1,rfl,hH1,hU1⟩
 have hH1':=hide hH1
 clear hH1
 go_wp2_with fail
 go_loopw [18] (fun i wx=>∃k T,k≤n∧i=.int .i64 (k:Nat)∧Hsh wx W.heap.size T g (chalB (ps.take k))∧Ext W wx) (fun i _=>n - (intOf i).toNat)
 case atStart=>exact⟨0,T1,by omega,rfl,hH1'.out,hU1⟩
 case round=>
  obtain⟨k,T,hk,rfl,hH,hU⟩:=hrel
  have hH':=hide hH
  have HU:=hide hU
  clear hH hU1 hH1' hU
  by_cases hlt:k<n
  case neg=>
   obtain rfl:n=k:=by omega
   have hlti:¬((n:Int)<(n:Int)):=by omega
   have hfull:ps.take n=ps:=List.take_of_length_le (by have:=Hn.out;omega)
   have hH2:Hid (Hsh wr W.heap.size T g (chalB ps)):=hide (by have:=hH'.out;rwa [hfull]at this)
   have hb4:=b4.ext HU.out
   have hEw:=hE.trans HU.out
   clear hfull hH' HU b4 hE
   go_wp2_with fail
   refine(hsum_any W.heap.size g T (chalB ps) _ hH2.out Hl.out).mono ?_
   rintro e w2 ⟨A2,c2,rfl,hO2,hU2⟩
   have hS2:=hO2.sl
   clear hO2 hH2
   go_wp2_with fail
   refine(from_any A2 32 c2 (sum (chalB ps)) _ (sum_length _) (by omega) hS2).mono ?_
   rintro e w3 ⟨A3,l3,c3,rfl,hV3,hU3⟩
   have hb5:=hb4.ext (hU2.trans hU3)
   have hE3:=hEw.trans (hU2.trans hU3)
   clear hS2 hU2 hU3 hb4 hEw
   go_wp2_with fail
   refine name_w (fun X hX=>?_)
   have b10:Box X w3.heap.size 39 (.slice A3 l3 c3):=by rw[hX];exact Box.new _ _ _
   have b4:Box X w.heap.size 39 (.slice none 0 0):=by rw[hX];exact hb5.alloc _
   have hEX:Ext w X:=by rw[hX];exact hE3.alloc _
   have hVX:NatV X (.agg #[.slice A3 l3 c3]) (ofB (sum (chalB ps))):=by rw[hX];exact hV3.ext ((Upd.refl _ _).alloc _)
   obtain⟨x,hx⟩:∃x,x=ofB (sum (chalB ps)):=⟨_,rfl⟩
   rw[←hx]at hVX
   have hFx:Fit k9 x:=by rw[hx];exact(fit_sum _).mono hk8
   have hch:chalN ps Q=x % Q:=by rw[hx];rfl
   have Hch:=hide hch
   have Hx:=hide hx
   clear hX hV3 hb5 hE3 hx hch
   obtain⟨gp,gq,B1,m1,d1,B2,m2,d2,h1, -,h3, -, -⟩:=HG.out.ext hEX
   have q0:=fun y:Wd (Ext X.drew)=>y.ok.cellv (show X.drew.cell? ⟨gr,1,none⟩=some (.pointer (some ⟨gq,0,none⟩)) from(h1.ext (Upd.refl _ _).drew).at 1 rfl)
   have q1:=fun y:Wd (Ext X.drew)=>y.ok.cellv b10.drew.cell
   refine wp_region_plan (Ext _) 6 [(false,0),(false,1),(false,2),(false,3),(false,4),(true,5)] (by kernel_rfl) (by kernel_rfl) (Upd.refl _ _) (fun hne=>?_)
   repeat (refine head_q rfl (fun K hK=>?_);have hK2:=hide hK;clear hK;go_simp;refine hK2.out _ ?_;clear hK2 K)
   refine head_l rfl ?_
   go_wp2_with (go_at_call 9;go_must (refine(mof_any _ gq x Q k9 _ (h3.ext (Upd.refl _ _).drew) (hVX.ext (Upd.refl _ _).drew) hFx hFQ hk9).mono ?_);rintro e w9 ⟨A9,l9,c9,rfl,hV9,hU9⟩)
   refine⟨Cls (Ext _),fun _ h=>h,⟨⟨_,hU9⟩,rfl⟩,?_⟩
   repeat (refine head_q rfl (fun K hK=>?_);have hK2:=hide hK;clear hK;go_simp;refine hK2.out _ ?_;clear hK2 K)
   have b4':=b4.ext hU9.undrew
   have z2:=b4'.cell
   have z3:=b4'.frozen
   have hG:=hEX.trans hU9.undrew
   clear q0 q1
   refine head_nil ?_
   try simp only[List.drop_succ_cons,List.drop_zero]
   go_wp2_with fail
   have q:=(b4'.set (.slice A9 l9 c9)).cell
   have hVf:NatV (w9.setCell ⟨w.heap.size,0,none⟩ (.slice A9 l9 c9)) (.agg #[.slice A9 l9 c9]) (chalN ps Q):=by rw[Hch.out];exact hV9.far z2
   exact bodyPost_ret (v:=.agg #[.slice A9 l9 c9]) (by simp[results,Tryz.results101,go_sem,q]) rfl ⟨_,_,_,rfl,hVf,hG.setCell (p:=⟨w.heap.size,0,none⟩) (.inr (Nat.le_refl _)) _⟩
  case pos=>
   have hlti:(k:Int)<n:=by omega
   have hEw:=hE.trans HU.out
   obtain⟨b,o,rfl,_,hc⟩:=(HP.out.ext hEw).1.open_ (by have:=Hn.out;omega)
   have hck:=hc k (by have:=Hn.out;omega)
   unfold Pt.val at hck
   have Hok:=hide ((HP.out.ext hEw).2 k (by have:=Hn.out;omega))
   obtain⟨p,hp⟩:∃p,p=gat ps k:=⟨_,rfl⟩
   rw[←hp]at hck Hok
   have Htk:Hid (chalB (ps.take k)++(leK p.n 8++p.bs)=chalB (ps.take (k+1))):=hide (by rw[hp];exact chalB_take (by rw[Hn.out];exact hlt))
   obtain⟨L,hL⟩:∃L,L=p.n:=⟨_,rfl⟩
   have hLm:L≤9223372036854775807:=by have:=Hok.out.2.2;unfold maxLen at this;omega
   rw[←hL]at hck Htk
   have HL:=hide hL
   have Hp:=hide hp
   clear hc hp hL
   refine name_w (fun Z hZ=>?_)
   subst hZ
   go_wp2_with (first
    | (at_make;go_must (refine wpList_mk _ _ _ Tryz.el8 rfl rfl 8 rfl rfl rfl rfl (by omega) (by unfold maxLen;omega) by8 rfl rfl (Nat.le_refl _) ?_);rintro g2 w2 hO2 rfl hU2))
   have hO2':=hide hO2
   clear hO2
   go_loopw [25] (fun v wx=>∃i,i≤8∧v=.int .i64 (i:Nat)∧Own wx Z.heap.size 5 (some ⟨Z.heap.size,0,none⟩) 8 ((leK L i++List.replicate (8 - i) (default:BitVec 8)).map by8)∧Ext Z wx) (fun v _=>8 - (intOf v).toNat)
   case atStart=>exact⟨0,by omega,rfl,hO2'.out,hU2⟩
   case round=>
    clear hO2' hU2
    obtain⟨i,hi,rfl,hO,hU⟩:=hrel
    by_cases hi8:i<8
    case neg=>
     obtain rfl:i=8:=by omega
     have hsz:W.heap.size≤wr.heap.size:=Nat.le_trans HU.out.size hU.size
     have hS8:Sl by8 wr (some ⟨Z.heap.size,0,none⟩) (leK L 8):=by simpa using hO.sl
     have hHx:=hH'.out.ext hU
     have hEz:=hEw.trans hU
     have hEW:=HU.out.trans hU
     have hft:chalB (ps.take k)++leK L 8++p.bs=chalB (ps.take (k+1)):=by rw[List.append_assoc];exact Htk.out
     have hle:(chalB (ps.take (k+1))).length≤100000000:=Nat.le_trans (chalB_le ps (k+1)) Hl.out
     have hle8:(chalB (ps.take k)++leK L 8).length≤100000000:=by have h1:=congrArg List.length hft;rw[List.length_append]at h1;omega
     obtain⟨mid,hmid⟩:∃mid,mid=chalB (ps.take k)++leK L 8:=⟨_,rfl⟩
     rw[←hmid]at hft hle8
     have Hft:=hide hft
     have Hle:=hide hle
     have Hle8:=hide hle8
     have Hmid:=hide hmid
     clear hO hft hle hle8 hmid hU
     go_wp2_with fail
     refine(hadd_any W.heap.size g T (chalB (ps.take k)) (leK L 8) mid _ 8 8 _ hHx hsz hS8 (leK_length _ _) Hmid.out.symm (by have:=Hle8.out;omega)).mono ?_
     rintro e w2 ⟨T2,rfl,hH2,hU2, -⟩
     have hEz2:=upd_new hU2 hEz (fun q hq=>Nat.le_trans (Nat.le_of_lt (Nat.lt_of_lt_of_le hBW (Nat.le_refl _)) |> fun _=>hE.size) (hHx.in_ hq).1)
     have hEW2:=upd_new hU2 hEW (fun q hq=>(hHx.in_ hq).1)
     have hSp:=((HP.out.ext hEz2).2 k (by have:=Hn.out;omega)).1
     rw[←Hp.out]at hSp
     clear hHx hS8 hEz hEW hU2 hsz
     go_wp2_with fail
     refine(hadd_any W.heap.size g T2 mid p.bs (chalB (ps.take (k+1))) _ L p.c _ hH2 hEW2.size hSp (by rw[Hok.out.2.1,HL.out]) Hft.out (by have:=Hle.out;omega)).mono ?_
     rintro e w3 ⟨T3,rfl,hH3,hU3, -⟩
     have hEW3:=upd_new hU3 hEW2 (fun q hq=>(hH2.in_ hq).1)
     clear hSp hEz2 hEW2 hH2 hU3
     go_wp2_with fail
     go_roundw
     case rel=>exact⟨k+1,T3,by omega,by go_num,hH3,hEW3⟩
     case measure=>simp[intOf];omega
    case pos=>
     have hiI:(i:Int)<8:=by omega
     have hval:=byteAt_n8 L i
     have hOf:=hide hO
     clear hO
     go_wp2_with (refine wpList_store_own by8 one8 (byteAt L i) rfl rfl Tryz.sz8 rfl rfl hOf.out (by simp[leK_length];omega) ?_;intro w4 hO4 hU4)
     go_roundw
     case rel=>exact⟨i+1,by omega,by go_num,by rw[leK_set L i hi8]at hO4;exact hO4,upd_new hU4 hU (fun q hq=>Nat.le_of_eq hq.symm)⟩
     case measure=>simp[intOf];omega
end
/- The document's challenge, walked. -/
section
open Go.RowKit
open Nt Sha
attribute [local go_sem] steady steadyUpon Cls same_cell
attribute [local irreducible] wpHead wpTree
theorem rep_nil' (w:World) {B g:Nat} (hB:B≤w.heap.size) (hg:g=w.heap.size):Own (w.alloc (.cells #[] 5)) B 5 (some ⟨g,0,none⟩) 0 (([]:List (BitVec 8)).map by8):=by
 subst hg;exact Own.lit by8 w 5 [] hB (Nat.zero_le _)
set_option maxRecDepth 100000 in
set_option maxHeartbeats 4000000 in
theorem rChal_any (v:Value) (P Q G H k9:Nat) (A:Option Addr) (n c:Nat) (ps:List Pt) (w:World) (h:RGrpV w v P Q G H) (hP:Pts w A ps) (hn:ps.length=n) (hnm:n≤1000) (hl:(chalB ps).length≤100000000) (hFQ:blen Q≤k9) (hk8:256≤k9) (hk9:k9≤1000000) (hQ0:0<Q):
 Calls Tryz.prog 89 #[v,.slice A n c] w (RetR w (chalN ps Q)):=by
 obtain⟨A1,l1,c1,A2,l2,c2,A3,l3,c3,A4,l4,c4,rfl, -,hVQ, -, -⟩:=h
 have HP:=hide hP
 have Hn:=hide hn
 have Hl:=hide hl
 clear hP hn hl
 go_enter Tryz.func89,Tryz.ntmps89
 go_wp2_with fail
 obtain⟨W,hW⟩:∃W,W=w.alloc (.cells #[.slice A1 l1 c1,.slice A2 l2 c2,.slice A3 l3 c3,.slice A4 l4 c4] 34):=⟨_,rfl⟩
 have b2:Blk W w.heap.size 34 #[.slice A1 l1 c1,.slice A2 l2 c2,.slice A3 l3 c3,.slice A4 l4 c4]:=by rw[hW];exact Blk.new _ _ _
 have hE:Ext w W:=by rw[hW];exact(Upd.refl _ _).alloc _
 have hWs:W.heap.size=w.heap.size+1:=by rw[hW];simp
 rw[←hW]
 clear hW
 have HWs:=hide hWs
 clear hWs
 go_loopw [13,5,7,8,9] (fun i v _ _ _ wx=>∃k A1 c1 l,k≤n∧i=.int .i64 (k:Nat)∧v=.slice A1 l c1∧(chalB (ps.take k)).length=l∧Own wx W.heap.size 5 A1 c1 ((chalB (ps.take k)).map by8)∧Ext W wx) (fun i _ _ _ _ _=>n - (intOf i).toNat)
 case atStart=>exact⟨0,_,_,0,by omega,rfl,rfl,rfl,rep_nil' _ (Nat.le_refl _) HWs.out.symm,(Upd.refl _ _).alloc _⟩
 case round=>
  obtain⟨k,A5,c5,l,hk,rfl,rfl,hl1,hO,hU⟩:=hrel
  have hO':=hide hO
  have Hl1:=hide hl1
  have HU:=hide hU
  clear hO hl1 hU
  by_cases hlt:k<n
  case pos=>
   have hlti:(k:Int)<n:=by omega
   obtain⟨b,o,rfl,_,hc⟩:=(HP.out.ext (hE.trans HU.out)).1.open_ (by have:=Hn.out;omega)
   have hck:=hc k (by have:=Hn.out;omega)
   unfold Pt.val at hck
   have Hok:=hide ((HP.out.ext (hE.trans HU.out)).2 k (by have:=Hn.out;omega))
   obtain⟨p,hp⟩:∃p,p=gat ps k:=⟨_,rfl⟩
   rw[←hp]at hck Hok
   have Htk:Hid (chalB (ps.take k)++(leK p.n 8++p.bs)=chalB (ps.take (k+1))):=hide (by rw[hp];exact chalB_take (by rw[Hn.out];exact hlt))
   have Hle:Hid ((chalB (ps.take (k+1))).length≤100000000):=hide (Nat.le_trans (chalB_le ps (k+1)) Hl.out)
   obtain⟨L,hL⟩:∃L,L=p.n:=⟨_,rfl⟩
   have hLm:L≤9223372036854775807:=by have:=Hok.out.2.2;unfold maxLen at this;omega
   rw[←hL]at hck Htk
   have HL:=hide hL
   have Hp:=hide hp
   clear hc hp hL
   obtain⟨xs,hxs⟩:∃xs,xs=chalB (ps.take k):=⟨_,rfl⟩
   rw[←hxs]at hO' Hl1 Htk
   have Hxs:=hide hxs
   clear hxs
   refine name_w (fun Z hZ=>?_)
   subst hZ
   have hzb:l+8+L≤100000000:=by have h1:=Hle.out;rw[←Htk.out]at h1;simp[leK_length,Hok.out.2.1,Hl1.out,←HL.out]at h1;omega
   go_wp2_with fail
   go_loopw [9,5,8] (fun v s q wx=>∃i A6 c6,i≤8∧v=.int .i64 (i:Nat)∧s=.slice A6 (l+i) c6∧q=.int .i64 ((L / 2^(8*i):Nat):Int)∧Own wx W.heap.size 5 A6 c6 ((xs++leK L i).map by8)∧Ext W wx) (fun v _ _ _=>8 - (intOf v).toNat)
   case atStart=>exact⟨0,A5,c5,by omega,rfl,rfl,by simp,by simpa[leK] using hO'.out,HU.out⟩
   case round=>
    obtain⟨i,A6,c6,hi,rfl,rfl,rfl,hO,hU⟩:=hrel
    by_cases hi8:i<8
    case neg=>
     obtain rfl:i=8:=by omega
     have hOf:=hide hO
     have HU2:=hide hU
     have hst:xs++leK L 8++p.bs=chalB (ps.take (k+1)):=by rw[List.append_assoc];exact Htk.out
     have hln:(xs++leK L 8).length=l+8:=by rw[List.length_append,leK_length,Hl1.out]
     have hln2:(chalB (ps.take (k+1))).length=l+8+L:=by rw[←hst,List.length_append,hln,Hok.out.2.1,HL.out]
     have hSp:=(((HP.out.ext (hE.trans hU)).2 k (by have:=Hn.out;omega)).1)
     rw[←Hp.out]at hSp
     have Hst:=hide hst
     have Hln:=hide hln
     have Hln2:=hide hln2
     have HSp:=hide hSp
     clear hO hU hst hln hln2 hSp
     go_wp2_with (at_builtin;go_must (refine wpList_apd by8 one8 Tryz.el8 (xs++leK L 8) p.bs (chalB (ps.take (k+1))) (l+8+L) Hst.out Hln2.out (by omega) (by unfold maxLen;omega) rfl rfl rfl Hln.out hOf.out rfl (Hok.out.2.1.trans HL.out.symm) HSp.out HU2.out.size ?_);intro A3 c3 w3 hO3 hU3 hin3)
     go_roundw
     case rel=>exact⟨k+1,A3,c3,_,by omega,by go_num,rfl,Hln2.out,hO3,upd_new hU3 HU2.out (fun q hq=>(hOf.out.in_ hq).1)⟩
     case measure=>simp[intOf];omega
    case pos=>
     have hiI:(i:Int)<8:=by omega
     obtain⟨X,hX⟩:∃X,X=L / 2^(8*i):=⟨_,rfl⟩
     have hXd:L / 2^(8*(i+1))=X / 256:=by rw[hX,show 8*(i+1)=8*i+8 by omega,Nat.pow_add,←Nat.div_div_eq_div_mul]
     rw[←hX]
     obtain⟨bt,hbt⟩:∃bt,bt=byteAt L i:=⟨_,rfl⟩
     have hb0:bt.toNat=X % 256:=by rw[hbt,hX];unfold byteAt;rw[BitVec.toNat_ofNat]
     have hv2:(X:Int) % 256=n8 bt:=by unfold n8;omega
     have hv1:(X:Int).tmod 256=n8 bt:=by rw[Int.tmod_eq_emod_of_nonneg (by omega)];exact hv2
     have hv3:IntKind.u8.wrap (n8 bt)=n8 bt:=by unfold n8;exact IntWalk.u8_in _ (by omega)
     obtain⟨Y,hY⟩:∃Y,Y=X / 256:=⟨_,rfl⟩
     rw[←hY]at hXd
     have hd2:(X:Int) / 256=(Y:Int):=by omega
     have hd1:(X:Int).tdiv 256=(Y:Int):=by rw[Int.tdiv_eq_ediv_of_nonneg (by omega)];exact hd2
     have hYm:Y≤X:=by omega
     have HY:=hide hY
     clear hY
     have Hb0:=hide hb0
     clear hb0
     have HXd:=hide hXd
     have Hbt:=hide hbt
     have hOf:=hide hO
     have HU2:=hide hU
     have hXm:X≤100000000:=by rw[hX];exact Nat.le_trans (Nat.div_le_self _ _) (by omega)
     have hst:xs++leK L i++[bt]=xs++leK L (i+1):=by rw[List.append_assoc,hbt];rfl
     have hln:(xs++leK L i).length=l+i:=by rw[List.length_append,leK_length,Hl1.out]
     have hln2:(xs++leK L (i+1)).length=l+(i+1):=by rw[List.length_append,leK_length,Hl1.out]
     have Hst:=hide hst
     have Hln:=hide hln
     have Hln2:=hide hln2
     clear hO hU hX hXd hbt hst hln hln2
     go_wp2_with (at_builtin;go_must (refine wpList_apd by8 one8 Tryz.el8 (xs++leK L i) [bt] (xs++leK L (i+1)) (l+(i+1)) Hst.out Hln2.out (by omega) (by unfold maxLen;omega) rfl rfl rfl Hln.out (hOf.out.ext ((Upd.refl _ _).alloc _)) rfl rfl (Sl.new by8 _ _ [bt]) (Nat.le_trans HU2.out.size (by simp)) ?_);intro A3 c3 w3 hO3 hU3 hin3)
     go_roundw
     case rel=>exact⟨i+1,A3,c3,by omega,by go_num,rfl,by rw[HXd.out],hO3,upd_new hU3 (HU2.out.alloc _) (fun q hq=>(hOf.out.in_ hq).1)⟩
     case measure=>simp[intOf];omega
  case neg=>
   obtain rfl:k=n:=by omega
   have hlti:¬((k:Int)<(k:Int)):=by omega
   have hfull:ps.take k=ps:=List.take_of_length_le (by have:=Hn.out;omega)
   rw[hfull]at hO' Hl1
   have hS5:=hO'.out.sl
   have hll:l≤100000000:=by rw[←Hl1.out];exact Hl.out
   clear hfull hO'
   go_wp2_with fail
   refine name_w (fun X hX=>?_)
   subst hX
   obtain⟨x,hx⟩:∃x,x=ofB (sum (chalB ps)):=⟨_,rfl⟩
   have hch:chalN ps Q=x % Q:=by rw[hx];rfl
   have hFx:blen x≤k9:=by rw[hx];exact Nat.le_trans (Fit.blen (fit_sum _)) hk8
   obtain⟨bs,hbs⟩:∃bs,bs=sum (chalB ps):=⟨_,rfl⟩
   have hbl:bs.length=32:=by rw[hbs];exact sum_length _
   rw[←hbs]at hx
   have Hbs:=hide hbs
   have Hch:=hide hch
   have Hx:=hide hx
   have Hbl:=hide hbl
   clear hch hx hbs hbl
   have q1:=fun y:Wd (Ext X.drew)=>y.ok.cellv ((b2.ext (HU.out.trans (Upd.refl _ _).drew)).at 1 rfl)
   refine wp_region_plan (Ext _) 6 [(false,0),(false,3),(false,4),(true,1),(true,2),(true,5)] (by kernel_rfl) (by kernel_rfl) (Upd.refl _ _) (fun hne=>?_)
   repeat (refine head_q rfl (fun K hK=>?_);have hK2:=hide hK;clear hK;go_simp;refine hK2.out _ ?_;clear hK2 K)
   refine head_l rfl ?_
   go_wp2_with (go_at_call 106;go_must (refine(rsum_any A5 l c5 (chalB ps) _ (hS5.ext (Upd.refl _ _).drew) Hl1.out hll).mono ?_);rintro e w1 ⟨A7,c7,rfl,hO7,hU7⟩;rw[←Hbs.out]at hO7;have hS7:=hO7.sl;clear hO7)
   refine⟨Cls (Ext _),fun _ h=>h,⟨⟨_,hU7⟩,rfl⟩,?_⟩
   repeat (refine head_q rfl (fun K hK=>?_);have hK2:=hide hK;clear hK;go_simp;refine hK2.out _ ?_;clear hK2 K)
   refine head_l rfl ?_
   go_wp2_with (go_at_call 50;go_must (refine(rof_any A7 32 c7 bs _ Hbl.out (by omega) hS7).mono ?_);rintro e w2 ⟨A8,l8,c8,rfl,hV8,hU8⟩;replace hU8:=hU7.trans hU8;rw[←Hx.out]at hV8)
   refine⟨Cls (Ext _),fun _ h=>h,⟨⟨_,hU8⟩,rfl⟩,?_⟩
   repeat (refine head_q rfl (fun K hK=>?_);have hK2:=hide hK;clear hK;go_simp;refine hK2.out _ ?_;clear hK2 K)
   refine head_l rfl ?_
   go_wp2_with (go_at_call 102;go_must (refine(rmof_any _ _ x Q k9 _ hV8 (hVQ.ext ((hE.trans HU.out).trans ((Upd.refl _ _).drew.trans hU8))) hFx hFQ (by omega) hQ0).mono ?_);rintro e w3 ⟨A9,l9,c9,rfl,hV9,hU9⟩;replace hU9:=hU8.trans hU9)
   refine⟨Cls (Ext _),fun _ h=>h,⟨⟨_,hU9⟩,rfl⟩,?_⟩
   repeat (refine head_q rfl (fun K hK=>?_);have hK2:=hide hK;clear hK;go_simp;refine hK2.out _ ?_;clear hK2 K)
   have hG:=(hE.trans HU.out).trans hU9.undrew
   clear q1
   refine head_nil ?_
   try simp only[List.drop_succ_cons,List.drop_zero]
   go_wp2_with fail
   go_ret
   rw[←Hch.out]at hV9
   exact⟨_,_,_,rfl,hV9,hG⟩
end
end Go.Proofs.YtbhhjfhepkbfgaaGreat
