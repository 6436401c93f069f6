/- Fronts of a chain: the plain law. -/
import Derived.Test.YtbhhjfhepkbfgaaGnCertP
import Derived.Test.YtbhhjfhepkbfgaaGnCertH
namespace Go.Proofs.Ytbhhjfhepkbfgaa
set_option linter.unusedSimpArgs false
set_option linter.unusedVariables false
open Go.RowKit
open Nt Pk
theorem blen_w64 {n:Nat} (h:W64 n):¬1024<blen n:=by
 have:blen n≤64:=blen_le_iff.2 (by unfold W64 at h;omega)
 omega
theorem longB_no {s:St} (hN:W64 s.N) (hb:W64 s.b) (hp:∀j,j<s.ps.length→W64 (gat s.ps j)):longB s=false:=by
 have h3:(s.ps.any fun p=>decide (1024<blen p))=false:=by
   rw[List.any_eq_false]
   intro p hm
   obtain⟨j,hj,rfl⟩:=List.getElem_of_mem hm
   have:=blen_w64 (hp j hj)
   rw[gat_lt hj]at this
   simpa using this
 unfold longB
 rw[h3,decide_eq_false (blen_w64 hN),decide_eq_false (blen_w64 hb)]
 rfl
end Go.Proofs.Ytbhhjfhepkbfgaa
