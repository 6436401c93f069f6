/- Blocks of known cells. -/
import Derived.Test.YtbhhjfhepkbfgaaGnBase
namespace Go.Proofs.Ytbhhjfhepkbfgaa
set_option linter.unusedSimpArgs false
set_option linter.unusedVariables false
open Go.RowKit
def Blk (w:World) (g:Nat) (t:TypeId) (cs:Array Value):Prop:=w.heap[g]? =some (.cells cs t (0,0))
theorem Blk.lt {w:World} {g:Nat} {t:TypeId} {cs:Array Value} (h:Blk w g t cs):g<w.heap.size:=(Array.getElem?_eq_some_iff.1 h).1
theorem Blk.at {w:World} {g:Nat} {t:TypeId} {cs:Array Value} (h:Blk w g t cs) (i:Nat) {v:Value} (hv:cs[i]? =some v):w.cell? ⟨g,i,none⟩=some v:=by unfold Blk at h;simp[World.cell?,h,hv]
theorem Blk.frozen {w:World} {g:Nat} {t:TypeId} {cs:Array Value} (h:Blk w g t cs) (o:Nat):w.frozen? ⟨g,o,none⟩=false:=by unfold Blk at h;simp[World.frozen?,h]
theorem Blk.upd {w w':World} {g:Nat} {t:TypeId} {cs:Array Value} {T:Nat→Prop} (h:Blk w g t cs) (hu:Upd T w w') (hT:¬T g):Blk w' g t cs:=(hu.block g h.lt hT).trans h
theorem Blk.ext {w w':World} {g:Nat} {t:TypeId} {cs:Array Value} (h:Blk w g t cs) (hu:Ext w w'):Blk w' g t cs:=h.upd hu (fun h=>h)
theorem Blk.new (w:World) (t:TypeId) (cs:Array Value):Blk (w.alloc (.cells cs t)) w.heap.size t cs:=heap_alloc_new w _
theorem Blk.new_at {w:World} {g:Nat} {t:TypeId} {cs:Array Value} (hg:w.heap.size=g):Blk (w.alloc (.cells cs t)) g t cs:=by subst hg;exact Blk.new _ _ _
theorem Blk.set {w:World} {g:Nat} {t:TypeId} {cs:Array Value} (h:Blk w g t cs) (i:Nat) (u:Value):Blk (w.setCell ⟨g,i,none⟩ u) g t (cs.set! i u):=by
 unfold Blk at*
 simp[World.setCell,Array.getElem?_modify,h]
end Go.Proofs.Ytbhhjfhepkbfgaa
