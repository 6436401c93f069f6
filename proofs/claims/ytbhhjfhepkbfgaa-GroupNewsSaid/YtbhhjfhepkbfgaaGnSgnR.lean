/- Signatures of the document, walked. -/
import Derived.Test.YtbhhjfhepkbfgaaGnSgnP
import Derived.Test.YtbhhjfhepkbfgaaGnCertH
namespace Go.Proofs.Ytbhhjfhepkbfgaa
set_option linter.unusedSimpArgs false
set_option linter.unusedVariables false
open Go.RowKit
open Nt Sha
attribute [local go_sem] steady steadyUpon Cls same_cell
attribute [local irreducible] wpHead wpTree sum
section
variable (k : Nat) (w : World) (v : Value) (P Q G H : Nat)
set_option maxRecDepth 100000 in
set_option maxHeartbeats 1000000 in
theorem rsize_any (h:RGrpV w v P Q G H) (hF:blen P≤1000000):Calls Try.prog 14 #[v] w fun e w'=>e=.returned (.int .i64 (byteSz P:Nat))∧Ext w w':=by
  obtain⟨A1,l1,c1,A2,l2,c2,A3,l3,c3,A4,l4,c4,rfl,h1,h2,h3,h4⟩:=h
  have hlen:=h1.len
  have hF':=hF
  rw[←hlen]at hF'
  have hLb:=byteSz_int P
  rw[←hlen]at hLb
  obtain⟨z,hz⟩:∃z,z=byteSz P:=⟨_,rfl⟩
  rw[←hz]at hLb ⊢
  clear hlen hz
  go_enter Try.func14,Try.ntmps14
  have b1:Blk (w.alloc (.cells #[.slice A1 l1 c1,.slice A2 l2 c2,.slice A3 l3 c3,.slice A4 l4 c4] 51)) w.heap.size 51 #[.slice A1 l1 c1,.slice A2 l2 c2,.slice A3 l3 c3,.slice A4 l4 c4]:=Blk.new _ _ _
  have q:=b1.at 0 rfl
  go_wp2_with fail
  go_ret
  exact⟨congrArg (fun x=>Ending.returned (.int .i64 x)) hLb,(Upd.refl _ w).alloc _⟩
end
end Go.Proofs.Ytbhhjfhepkbfgaa
