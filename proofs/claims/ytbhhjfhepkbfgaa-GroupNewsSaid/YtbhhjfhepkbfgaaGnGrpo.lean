/- Merged: GrpN GrpQ GrpO. -/
import Derived.Test.YtbhhjfhepkbfgaaGnGrpe
namespace Go.Proofs.Ytbhhjfhepkbfgaa
set_option linter.unusedSimpArgs false
set_option linter.unusedVariables false
/- A group, walked: its bases, its size, bytes and members of bytes; what none answers; the document's group of a group. -/
section
open Go.RowKit
open Nt
attribute [local go_sem] steady steadyUpon Cls same_cell
attribute [local irreducible] wpHead wpTree
section
variable (gr P Q G H k : Nat) (w : World)
set_option maxRecDepth 100000 in
set_option maxHeartbeats 1000000 in
theorem gG_any (h:GrpV w gr P Q G H):Calls Try.prog 12 #[.pointer (some ⟨gr,0,none⟩)] w (RetN w G):=by
 obtain⟨gp,gq,A1,l1,c1,A2,l2,c2,h1,h2,h3,h4,h5⟩:=h
 go_enter Try.func12,Try.ntmps12
 have b1:Box (w.alloc (.cells #[.slice none 0 0] 33)) w.heap.size 33 (.slice none 0 0):=Box.new _ _ _
 have hE:Ext w (w.alloc (.cells #[.slice none 0 0] 33)):=(by repeat (first | (with_reducible exact Upd.refl _ _) | (with_reducible assumption) | (refine Upd.setCell ?_ (.inr (by first | exact Nat.le_refl _ | (dsimp only;omega) | (simp;done) | (simp;omega))) _) | (with_reducible refine Upd.alloc ?_ _) | (with_reducible refine Upd.drew ?_) | (with_reducible refine Upd.trans ?_ (by with_reducible assumption))))
 have c0:(w.alloc (.cells #[.slice none 0 0] 33)).cell? ⟨gr,2,none⟩=some (.slice A1 l1 c1):=(h1.ext hE).at 2 rfl
 have q2:=b1.cell
 have q3:=b1.frozen
 go_wp2_with fail
 have q:=(Box.new w 33 (.slice A1 l1 c1)).cell
 exact bodyPost_ret (v:=.agg #[.slice A1 l1 c1]) (by simp[results,Try.results12,go_sem,q]) rfl ⟨_,_,_,rfl,h4.ext ((Upd.refl _ _).alloc _),(Upd.refl _ _).alloc _⟩
set_option maxRecDepth 100000 in
set_option maxHeartbeats 1000000 in
theorem gH_any (h:GrpV w gr P Q G H):Calls Try.prog 11 #[.pointer (some ⟨gr,0,none⟩)] w (RetN w H):=by
 obtain⟨gp,gq,A1,l1,c1,A2,l2,c2,h1,h2,h3,h4,h5⟩:=h
 go_enter Try.func11,Try.ntmps11
 have b1:Box (w.alloc (.cells #[.slice none 0 0] 33)) w.heap.size 33 (.slice none 0 0):=Box.new _ _ _
 have hE:Ext w (w.alloc (.cells #[.slice none 0 0] 33)):=(by repeat (first | (with_reducible exact Upd.refl _ _) | (with_reducible assumption) | (refine Upd.setCell ?_ (.inr (by first | exact Nat.le_refl _ | (dsimp only;omega) | (simp;done) | (simp;omega))) _) | (with_reducible refine Upd.alloc ?_ _) | (with_reducible refine Upd.drew ?_) | (with_reducible refine Upd.trans ?_ (by with_reducible assumption))))
 have c0:(w.alloc (.cells #[.slice none 0 0] 33)).cell? ⟨gr,3,none⟩=some (.slice A2 l2 c2):=(h1.ext hE).at 3 rfl
 have q2:=b1.cell
 have q3:=b1.frozen
 go_wp2_with fail
 have q:=(Box.new w 33 (.slice A2 l2 c2)).cell
 exact bodyPost_ret (v:=.agg #[.slice A2 l2 c2]) (by simp[results,Try.results11,go_sem,q]) rfl ⟨_,_,_,rfl,h5.ext ((Upd.refl _ _).alloc _),(Upd.refl _ _).alloc _⟩
set_option maxRecDepth 100000 in
theorem gSize_any (h:GrpV w gr P Q G H):Calls Try.prog 13 #[.pointer (some ⟨gr,0,none⟩)] w fun e w'=>e=.returned (.int .i64 (byteSz P:Nat))∧w'=w:=by
  obtain⟨gp,gq,A1,l1,c1,A2,l2,c2,h1,h2,h3,h4,h5⟩:=h
  have c0:w.cell? ⟨gr,4,none⟩=some (.int .i64 (byteSz P:Nat)):=h1.at 4 rfl
  go_enter Try.func13,Try.ntmps13
  go_wp2_with fail
  go_ret
  exact⟨rfl,rfl⟩
end
/-! ### numbers as the document's -/
def RGrpV (w:World) (v:Value) (P Q G H:Nat):Prop:=∃A1 l1 c1 A2 l2 c2 A3 l3 c3 A4 l4 c4,v=.agg #[.slice A1 l1 c1,.slice A2 l2 c2,.slice A3 l3 c3,.slice A4 l4 c4]∧RefV w (.slice A1 l1 c1) P∧RefV w (.slice A2 l2 c2) Q∧RefV w (.slice A3 l3 c3) G∧RefV w (.slice A4 l4 c4) H
theorem RGrpV.ext {w w':World} {v:Value} {P Q G H:Nat} (h:RGrpV w v P Q G H) (hu:Ext w w'):RGrpV w' v P Q G H:=by
 obtain⟨A1,l1,c1,A2,l2,c2,A3,l3,c3,A4,l4,c4,e,h1,h2,h3,h4⟩:=h
 exact⟨A1,l1,c1,A2,l2,c2,A3,l3,c3,A4,l4,c4,e,h1.ext hu,h2.ext hu,h3.ext hu,h4.ext hu⟩
theorem RefV.far {w:World} {s:Value} {n:Nat} {p:Addr} {A:Option Addr} {l c:Nat} {v:Value} (h:RefV w s n) (hc:w.cell? p=some (.slice A l c)):RefV (w.setCell p v) s n:=
 NumS.far h hc (fun x e=>by cases e)
theorem ref4 {w:World} {g:Nat} {t:TypeId} {s:Value} {n:Nat} {a0 a1 a2 a3 b0 b1 b2 b3:Option Addr} {l0 l1 l2 l3 c0 c1 c2 c3 m0 m1 m2 m3 d0 d1 d2 d3:Nat} (h:RefV w s n) (hb:Blk w g t #[.slice a0 l0 c0,.slice a1 l1 c1,.slice a2 l2 c2,.slice a3 l3 c3]):
 RefV ((((w.setCell ⟨g,0,none⟩ (.slice b0 m0 d0)).setCell ⟨g,1,none⟩ (.slice b1 m1 d1)).setCell ⟨g,2,none⟩ (.slice b2 m2 d2)).setCell ⟨g,3,none⟩ (.slice b3 m3 d3)) s n:=by
 have h1:=h.far (v:=.slice b0 m0 d0) (hb.at 0 rfl)
 have hb1:=hb.set 0 (.slice b0 m0 d0)
 have h2:=h1.far (v:=.slice b1 m1 d1) (hb1.at 1 rfl)
 have hb2:=hb1.set 1 (.slice b1 m1 d1)
 have h3:=h2.far (v:=.slice b2 m2 d2) (hb2.at 2 rfl)
 have hb3:=hb2.set 2 (.slice b2 m2 d2)
 exact h3.far (hb3.at 3 rfl)
end
/- A group, walked: Challenge. -/
section
open Go.RowKit
open Nt Sha
attribute [local go_sem] steady steadyUpon Cls same_cell
attribute [local irreducible] wpHead wpTree
end
/- The document's challenge, walked. -/
section
open Go.RowKit
open Nt Sha
attribute [local go_sem] steady steadyUpon Cls same_cell
attribute [local irreducible] wpHead wpTree
end
end Go.Proofs.Ytbhhjfhepkbfgaa
