/- Slices of the document's numbers. -/
import Derived.Test.YtbhhjfhepkbfgaaGnCers
namespace Go.Proofs.Ytbhhjfhepkbfgaa
set_option linter.unusedSimpArgs false
set_option linter.unusedVariables false
open Go.RowKit
open Nt
def RefL (w:World) (A:Option Addr) (ns:List Nat):Prop:=∃ts:List Tri,ts.length=ns.length∧Sl svt w A ts∧∀i,i<ns.length→RefV w (svt (gat ts i)) (gat ns i)
theorem RefL.ext {w w':World} {A:Option Addr} {ns:List Nat} (h:RefL w A ns) (hu:Ext w w'):RefL w' A ns:=by
 obtain⟨ts,h1,h2,h3⟩:=h
 exact⟨ts,h1,h2.ext hu,fun i hi=>(h3 i hi).ext hu⟩
theorem RefL.ext' {w w':World} {A:Option Addr} {ns:List Nat} (h:RefL w A ns) (hu:Ext w w'):RefL w' A ns:=by
 obtain⟨ts,h1,h2,h3⟩:=h
 exact⟨ts,h1,h2.ext hu,fun i hi=>(h3 i hi).ext hu⟩
theorem RefL.at {w:World} {A:Option Addr} {ns:List Nat} (h:RefL w A ns) {i:Nat} (hi:i<ns.length):∃b o B l c,A=some ⟨b,o,none⟩∧w.cell? ⟨b,o+i,none⟩=some (.slice B l c)∧RefV w (.slice B l c) (gat ns i):=by
 obtain⟨ts,h1,h2,h3⟩:=h
 obtain⟨b,o,rfl, -,hc⟩:=h2.open_ (by omega)
 exact⟨b,o,_,_,_,rfl,hc i (by omega),h3 i hi⟩
theorem RefV.len {w:World} {A:Option Addr} {l c n:Nat} (h:RefV w (.slice A l c) n):l=blen n:=by
 obtain⟨A',l',c',xs,e,hlx,hca,hma,hSa,hTa,hna⟩:=h.open_
 injection e with _ e2 _
 subst e2
 have:=bits_len (hlx▸hTa)
 rw[hna,hlx]at this
 exact this
theorem blen_lt2 {n:Nat}:blen n<2↔n<2:=by
 have h:=blen_le_iff (n:=n) (k:=1)
 constructor
 · intro h1;have:=h.1 (by omega);omega
 · intro h1;have:=h.2 (by omega);omega
theorem blen_pos {n:Nat}:0<blen n↔0<n:=by
 have h:=blen_le_iff (n:=n) (k:=0)
 constructor
 · intro h1;exact Nat.pos_of_ne_zero fun e=>by have:=h.2 (by omega);omega
 · intro h1;exact Nat.pos_of_ne_zero fun e=>by have:=h.1 (by omega);omega
end Go.Proofs.Ytbhhjfhepkbfgaa
