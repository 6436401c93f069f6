/- append(s, t...): onto a full row that can only be read. -/
import Derived.Test.YtdohmikoafkniaaGreatLpShas
import Derived.Test.YtdohmikoafkniaaGreatLpMods
import Derived.Deep.DeepCutAuto
import Derived.ArgAppend
namespace Go.Proofs.YtdohmikoafkniaaGreat
set_option linter.unusedSimpArgs false
set_option linter.unusedVariables false
open Go.RowKit
abbrev B8 :=BitVec 8
def Blk (w:World) (g:Nat) (t:TypeId) (cs:Array Value):Prop:=w.heap[g]? =some (.cells cs t (0,0))
theorem Blk.lt {w:World} {g:Nat} {t:TypeId} {cs:Array Value} (h:Blk w g t cs):g<w.heap.size:=(Array.getElem?_eq_some_iff.1 h).1
theorem Blk.at {w:World} {g:Nat} {t:TypeId} {cs:Array Value} (h:Blk w g t cs) (i:Nat) {v:Value} (hv:cs[i]? =some v):w.cell? ⟨g,i,none⟩=some v:=by unfold Blk at h;simp[World.cell?,h,hv]
theorem Blk.frozen {w:World} {g:Nat} {t:TypeId} {cs:Array Value} (h:Blk w g t cs) (o:Nat):w.frozen? ⟨g,o,none⟩=false:=by unfold Blk at h;simp[World.frozen?,h]
theorem Blk.upd {w w':World} {g:Nat} {t:TypeId} {cs:Array Value} {T:Nat→Prop} (h:Blk w g t cs) (hu:Upd T w w') (hT:¬T g):Blk w' g t cs:=(hu.block g h.lt hT).trans h
theorem Blk.ext {w w':World} {g:Nat} {t:TypeId} {cs:Array Value} (h:Blk w g t cs) (hu:Ext w w'):Blk w' g t cs:=h.upd hu (fun h=>h)
theorem Blk.new (w:World) (t:TypeId) (cs:Array Value):Blk (w.alloc (.cells cs t)) w.heap.size t cs:=heap_alloc_new w _
theorem Blk.new_at {w:World} {g:Nat} {t:TypeId} {cs:Array Value} (hg:w.heap.size=g):Blk (w.alloc (.cells cs t)) g t cs:=by subst hg;exact Blk.new _ _ _
theorem Blk.set {w:World} {g:Nat} {t:TypeId} {cs:Array Value} (h:Blk w g t cs) (i:Nat) (u:Value):Blk (w.setCell ⟨g,i,none⟩ u) g t (cs.set! i u):=by
 unfold Blk at*
 simp[World.setCell,Array.getElem?_modify,h]
end Go.Proofs.YtdohmikoafkniaaGreat
namespace Go.Proofs.YtdohmikoafkniaaGreat
set_option linter.unusedSimpArgs false
set_option linter.unusedVariables false
open Go.RowKit
open Nt Sha
attribute [local go_sem] steady steadyUpon Cls same_cell anyW
attribute [local irreducible] wpHead wpTree wpHeadR
def wby (n:Int) (i:Nat):B8:=BitVec.ofNat 8 ((IntKind.u64.wrap n).toNat / 2^(8*i))
def be (n:Int):Nat→List B8
 | 0=>[]
 | s+1=>wby n s :: be n s
end Go.Proofs.YtdohmikoafkniaaGreat
namespace Go.Proofs.YtdohmikoafkniaaGreat
set_option linter.unusedSimpArgs false
set_option linter.unusedVariables false
open Go.RowKit
theorem wpList_apn {P:Program} {w:World} {α:Type} [Inhabited α] (f:α→Value) (hone:∀x,(f x).oneCell'=true) {T e:TypeId} {z:Value} {bytes:Nat} (E:ElemI P T e z bytes) (xs ys zs:List α) (N:Nat) (hz:xs++ys=zs) (hN:zs.length=N)
 (hb:N*bytes≤140737488355328) (hm:N≤maxLen) {ops:Array Oper} {rest:List Oper} {o:Oper} {a:Act} {Q:Exit→Act→World→Prop} {s x:Operand}
 (hgd:o.guard=none) (ho:o.op=.call {callee:=.builtin .append,args:=#[s,x],argTypes:=#[T,T]}) {b off n:Nat} (hs:a.eval s=.slice (some ⟨b,off,none⟩) n n) (hn:xs.length=n)
 (hS:Sl f w (some ⟨b,off,none⟩) xs) {A2:Option Addr} {m c2:Nat} (hx:a.eval x=.slice A2 m c2) (hym:ys.length=m) (hr:Sl f w A2 ys) (h0:0<m)
 (h:∀A' c' w',Own w' w.heap.size e A' c' (zs.map f)→Ext w w'→wpList P ops Q rest (a.put o.dst (.slice A' N c')) w'):wpList P ops Q (o :: rest) a w:=by
 obtain⟨i,hi,hz',hs1,hb1⟩:=info_parts E.info
 obtain⟨b2,o2,rfl, -, -⟩:=hr.open_ (by omega)
 have hl:n+m=N:=by rw[←hN,←hz,List.length_append,hn,hym]
 refine wpList_append_arg w hgd s x T ho e i z 1 bytes E.under hi hz' hs1 hb1 E.one (by omega) b off n n (xs.map f) hs (by simp[hn]) ?_ ⟨b2,o2,none⟩ m c2 (ys.map f) hx (by simp[hym]) (hr.news _ rfl) (fun u hu=>by obtain⟨y,_,rfl⟩:=List.mem_map.1 hu;exact hone y) (fun hh=>absurd hh (by omega)) (by omega) (by rw[hl];exact hb) (fun hh=>absurd hh (by omega)) ?_
 · intro j u hu
   have:=hS.news ⟨b,off,none⟩ rfl j u hu
   rwa [Addr.add_lit]at this
 · intro _ v' w' hown hg
   have hU:Ext w w':=⟨hg.os,hg.tape,hg.output,hg.size,fun k hk _=>hg.block k hk (by simp)⟩
   have hform:∃A' c',v'=.slice A' N c':=by
    rcases hown.2 with ⟨h1,hn1⟩ | ⟨g,cap,cur,h1,_⟩
    · exact⟨none,0,by rw[h1,←hl,hn1]⟩
    · exact⟨_,_,by rw[h1,hl]⟩
   obtain⟨A',c',rfl⟩:=hform
   refine h A' c' w' ?_ hU
   unfold Own
   have e1:(zs.map f).length=N:=by simp[hN]
   rw[e1,←hl,←hz,List.map_append,hl]
   rw[hl]at hown
   exact hown
end Go.Proofs.YtdohmikoafkniaaGreat
