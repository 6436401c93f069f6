/- Slices of the document's numbers. -/
import Derived.Test.YtdohmikoafkniaaGreatDpCers
namespace Go.Proofs.YtdohmikoafkniaaGreat
set_option linter.unusedSimpArgs false
set_option linter.unusedVariables false
open Go.RowKit
open Nt
theorem RefV.len {w:World} {A:Option Addr} {l c n:Nat} (h:RefV w (.slice A l c) n):l=blen n:=by
 obtain⟨A',l',c',xs,e,hlx,hca,hma,hSa,hTa,hna⟩:=h.open_
 injection e with _ e2 _
 subst e2
 have:=bits_len (hlx▸hTa)
 rw[hna,hlx]at this
 exact this
end Go.Proofs.YtdohmikoafkniaaGreat
