/- Shapes of numbers, for regions whose order is open. -/
import Derived.Test.YtdohmikoafkniaaGreatDpFreeG
import Derived.Test.YtdohmikoafkniaaGreatDpCers
namespace Go.Proofs.YtdohmikoafkniaaGreat
set_option linter.unusedSimpArgs false
set_option linter.unusedVariables false
open Go.RowKit
open Nt
theorem Box.bx {w:World} {g:Nat} {t:TypeId} {v:Value} (h:Bx w g t v):Box w g t v:=h
theorem NatV.changeg {w w':World} {v:Value} {n:Nat} {T:Nat→Prop} (h:NatV w v n) (hU:Upd T w w') (hT:∀b,T b→Zg w b):NatV w' v n:=by
 obtain⟨s,rfl,A,c,xs,h1,h2,h3,h4,h5⟩:=h
 exact⟨s,rfl,A,c,xs,h1,h2,h3,h4.changeg (fun _=>rfl) hU hT,h5⟩
@[reducible] def natP (n : Nat) : Pv := ⟨fun v w => ∃ A l c, v = .agg #[.slice A l c] ∧ NatV w (.agg #[.slice A l c]) n, fun _ _ _ _ ⟨A, l, c, e, h⟩ hU hT => ⟨A, l, c, e, h.changeg hU hT⟩⟩
@[reducible] def natC (n : Nat) : Pv := ⟨fun v w => ∃ A l c, v = .slice A l c ∧ NatV w (.agg #[.slice A l c]) n, fun _ _ _ _ ⟨A, l, c, e, h⟩ hU hT => ⟨A, l, c, e, h.changeg hU hT⟩⟩
def NTwo (w:World) (A:Option Addr) (ns:List Nat):Prop:=
 ∃g t A0 l0 c0 A1 l1 c1 a b,A=some ⟨g,0,none⟩∧ns=[a,b]∧w.heap[g]? =some (.cells #[.slice A0 l0 c0,.slice A1 l1 c1] t (0,0))∧NatV w (.agg #[.slice A0 l0 c0]) a∧NatV w (.agg #[.slice A1 l1 c1]) b
theorem NTwo.changeg {w w':World} {A:Option Addr} {ns:List Nat} {T:Nat→Prop} (h:NTwo w A ns) (hU:Upd T w w') (hT:∀b,T b→Zg w b):NTwo w' A ns:=by
 obtain⟨g,t,A0,l0,c0,A1,l1,c1,a,b,e1,e2,hg,ha,hb⟩:=h
 refine⟨g,t,A0,l0,c0,A1,l1,c1,a,b,e1,e2,?_,ha.changeg hU hT,hb.changeg hU hT⟩
 refine(hU.block g (Array.getElem?_eq_some_iff.1 hg).1 (fun ht=>?_)).trans hg
 obtain⟨t2,v,hb2, -⟩:=hT _ ht
 unfold Bx at hb2
 rw[hg]at hb2
 injection hb2 with hb2
 injection hb2 with hb2
 have:=congrArg Array.size hb2
 simp at this
theorem NTwo.mk {w:World} {A0 A1:Option Addr} {l0 c0 l1 c1 a b:Nat} (t:TypeId) (ha:NatV w (.agg #[.slice A0 l0 c0]) a) (hb:NatV w (.agg #[.slice A1 l1 c1]) b):NTwo (w.alloc (.cells #[.slice A0 l0 c0,.slice A1 l1 c1] t)) (some ⟨w.heap.size,0,none⟩) [a,b]:=
 ⟨_,t,A0,l0,c0,A1,l1,c1,a,b,rfl,rfl,heap_alloc_new w _,ha.ext ((Upd.refl _ _).alloc _),hb.ext ((Upd.refl _ _).alloc _)⟩
theorem NTwo.natL {w:World} {A:Option Addr} {ns:List Nat} (h:NTwo w A ns):NatL w A ns:=by
 obtain⟨g,t,A0,l0,c0,A1,l1,c1,a,b,rfl,rfl,hg,ha,hb⟩:=h
 refine⟨[(A0,l0,c0),(A1,l1,c1)],rfl,fun i hi=>⟨g,0,rfl,?_⟩,fun i hi=>?_⟩
 · match i,hi with
   | 0,_=>simp[World.cell?,hg,gat,svt]
   | 1,_=>simp[World.cell?,hg,gat,svt]
 · match i,hi with
   | 0,_=>exact ha
   | 1,_=>exact hb
@[reducible] def twoP (ns : List Nat) : Pv := ⟨fun v w => ∃ A l c, v = .slice A l c ∧ (l = 2 ∧ c = 2 ∧ NTwo w A ns), fun _ _ _ _ ⟨A, l, c, e, h1, h2, h⟩ hU hT => ⟨A, l, c, e, h1, h2, h.changeg hU hT⟩⟩
end Go.Proofs.YtdohmikoafkniaaGreat
