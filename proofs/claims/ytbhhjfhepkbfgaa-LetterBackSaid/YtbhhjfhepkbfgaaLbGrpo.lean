/- Merged: GrpN GrpQ GrpO. -/
import Derived.Test.YtbhhjfhepkbfgaaLbGrpe
namespace Go.Proofs.Ytbhhjfhepkbfgaa
set_option linter.unusedSimpArgs false
set_option linter.unusedVariables false
/- A group, walked: its bases, its size, bytes and members of bytes; what none answers; the document's group of a group. -/
section
open Go.RowKit
open Nt
attribute [local go_sem] steady steadyUpon Cls same_cell
attribute [local irreducible] wpHead wpTree wpHeadR
section
variable (gr P Q G H k : Nat) (w : World)
set_option maxRecDepth 100000 in
set_option maxHeartbeats 1000000 in
theorem gG_any (h:GrpV w gr P Q G H):Calls Try.prog 12 #[.pointer (some ⟨gr,0,none⟩)] w (RetN w G):=by
 obtain⟨gp,gq,A1,l1,c1,A2,l2,c2,h1,h2,h3,h4,h5⟩:=h
 go_enter Try.func12,Try.ntmps12
 have b1:Box (w.alloc (.cells #[.slice none 0 0] 33)) w.heap.size 33 (.slice none 0 0):=Box.new _ _ _
 have hE:Ext w (w.alloc (.cells #[.slice none 0 0] 33)):=(by repeat (first | (with_reducible exact Upd.refl _ _) | (with_reducible assumption) | (refine Upd.setCell ?_ (.inr (by first | exact Nat.le_refl _ | (dsimp only;omega) | (simp;done) | (simp;omega))) _) | (with_reducible refine Upd.alloc ?_ _) | (with_reducible refine Upd.drew ?_) | (with_reducible refine Upd.trans ?_ (by with_reducible assumption))))
 have c0:(w.alloc (.cells #[.slice none 0 0] 33)).cell? ⟨gr,2,none⟩=some (.slice A1 l1 c1):=(h1.ext hE).at 2 rfl
 have q2:=b1.cell
 have q3:=b1.frozen
 go_wp2_with fail
 have q:=(Box.new w 33 (.slice A1 l1 c1)).cell
 exact bodyPost_ret (v:=.agg #[.slice A1 l1 c1]) (by simp[results,Try.results12,go_sem,q]) rfl ⟨_,_,_,rfl,h4.ext ((Upd.refl _ _).alloc _),(Upd.refl _ _).alloc _⟩
end
/-! ### numbers as the document's -/
end
/- A group, walked: Challenge. -/
section
open Go.RowKit
open Nt Sha
attribute [local go_sem] steady steadyUpon Cls same_cell anyW
attribute [local irreducible] wpHead wpTree wpHeadR
end
/- The document's challenge, walked. -/
section
open Go.RowKit
open Nt Sha
attribute [local go_sem] steady steadyUpon Cls same_cell anyW
attribute [local irreducible] wpHead wpTree wpHeadR
end
end Go.Proofs.Ytbhhjfhepkbfgaa
