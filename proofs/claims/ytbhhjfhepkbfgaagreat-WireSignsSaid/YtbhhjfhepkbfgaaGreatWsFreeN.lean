/- Shapes of numbers, for regions whose order is open. -/
import Derived.Test.YtbhhjfhepkbfgaaGreatWsCers
namespace Go.Proofs.YtbhhjfhepkbfgaaGreat
set_option linter.unusedSimpArgs false
set_option linter.unusedVariables false
open Go.RowKit
def soft1 :Value→Bool
 | .int _ _=>false
 | .bool _=>false
 | _=>true
def Bx (w:World) (g:Nat) (t:TypeId) (v:Value):Prop:=w.heap[g]? =some (.cells #[v] t (0,0))
section bx
variable {w w' : World} {g : Nat} {t : TypeId} {v : Value} {T : Nat → Prop}
theorem Bx.lt (h:Bx w g t v):g<w.heap.size:=(Array.getElem?_eq_some_iff.1 h).1
theorem Bx.cell (h:Bx w g t v):w.cell? ⟨g,0,none⟩=some v:=by unfold Bx at h;simp[World.cell?,h]
theorem Bx.frozen (h:Bx w g t v):w.frozen? ⟨g,0,none⟩=false:=by unfold Bx at h;simp[World.frozen?,h]
theorem Bx.upd (h:Bx w g t v) (hu:Upd T w w') (hT:¬T g):Bx w' g t v:=(hu.block g h.lt hT).trans h
theorem Bx.new (w:World) (t:TypeId) (v:Value):Bx (w.alloc (.cells #[v] t)) w.heap.size t v:=heap_alloc_new w _
theorem Bx.set (h:Bx w g t v) (u:Value):Bx (w.setCell ⟨g,0,none⟩ u) g t u:=by unfold Bx at*;simp[World.setCell,Array.getElem?_modify,h]
end bx
def Zg (w:World) (b:Nat):Prop:=∃t v,Bx w b t v∧soft1 v=true
theorem Sl.changeg {α:Type} [Inhabited α] {f:α→Value} (hf:∀x,soft1 (f x)=false) {w w':World} {A:Option Addr} {xs:List α} {T:Nat→Prop} (h:Sl f w A xs) (hU:Upd T w w') (hT:∀b,T b→Zg w b):Sl f w' A xs:=fun i hi=>by
  obtain⟨b,o,e,hc⟩:=h i hi
  refine⟨b,o,e,?_⟩
  rw[←hc]
  refine hU.cell (p:=⟨b,o+i,none⟩) (World.block_lt_of_cell? w _ hc) (fun ht=>?_)
  obtain⟨t,v,hb,hs⟩:=hT _ ht
  unfold Bx at hb
  simp only[World.cell?,hb]at hc
  rcases Nat.eq_zero_or_pos (o+i)with h0 | h0
  · rw[h0]at hc
    simp at hc
    rw[hc,hf]at hs
    cases hs
  · rw[Array.getElem?_eq_none (by simp only[List.size_toArray,List.length_cons,List.length_nil];omega)]at hc;cases hc
structure Pv where
 H:Value→World→Prop
 ch:∀(v:Value) (w w':World) (T:Nat→Prop),H v w→Upd T w w'→(∀b,T b→Zg w b)→H v w'
inductive Sg
 | eq (v:Value)
 | p (q:Pv)
@[reducible] def Sg.H : Sg → Value → World → Prop
 | .eq x,v,_=>v=x
 | .p q,v,w=>q.H v w
theorem Sg.change {s:Sg} {v:Value} {w w':World} {T:Nat→Prop} (h:s.H v w) (hU:Upd T w w') (hT:∀b,T b→Zg w b):s.H v w':=by
 cases s with
 | eq x=>exact h
 | p q=>exact q.ch _ _ _ _ h hU hT
inductive FG
 | val (s:Sg)
 | tup2 (a b:Sg)
 | tup3 (a b c:Sg)
 | new (t:TypeId) (v:Value)
 | set (d:Nat) (t:TypeId) (q:Pv)
 | row (t:TypeId) (v:Value)
@[reducible] def FG.J (i : Nat) : FG → FactU
 | .val s=>fun u w _=>s.H (u i) w
 | .tup2 a b=>fun u w _=>∃v1 v2,u i=.tuple #[v1,v2]∧a.H v1 w∧b.H v2 w
 | .tup3 a b c=>fun u w _=>∃v1 v2 v3,u i=.tuple #[v1,v2,v3]∧a.H v1 w∧b.H v2 w∧c.H v3 w
 | .new t v=>fun u w S=>∃g,u i=.pointer (some ⟨g,0,none⟩)∧Bx w g t v∧S g∧∀b,S b→b=g
 | .set d t q=>fun u w S=>∃g x,u d=.pointer (some ⟨g,0,none⟩)∧Bx w g t x∧S g∧q.H x w
 | .row t v=>fun u w S=>∃g,u i=.slice (some ⟨g,0,none⟩) 1 1∧Bx w g t v∧S g
def fgAt (L:List FG) (i:Nat):FactU:=FG.J i (L.getD i (.val (.eq undef)))
def FG.on :FG→Option Nat
 | .set d _ _=>some d
 | _=>none
def FG.soft :FG→Bool
 | .new _ v=>soft1 v
 | _=>false
theorem FG.soft_new {f:FG} (h:f.soft=true):∃t v,f=.new t v∧soft1 v=true:=by
 cases f with
 | new t v=>exact⟨t,v,rfl,h⟩
 | _=>cases h
def fgCons (L:List FG):List (Nat × Nat):=(List.range L.length).filterMap fun i=>((L[i]?).bind FG.on).map fun d=>(i,d)
def fgB (ops:Array Oper) (L:List FG):Bool:=(fgCons L).all fun p=>decide (p.2<L.length) && waitsOn ops p.1 p.2 && ((L[p.2]?).map FG.soft).getD false
theorem fg_cons {L:List FG} {i d:Nat} {t:TypeId} {q:Pv} (h:L[i]? =some (.set d t q)):(i,d)∈fgCons L:=by
 unfold fgCons
 refine List.mem_filterMap.2 ⟨i,List.mem_range.2 ?_,by simp[h,FG.on]⟩
 rcases Nat.lt_or_ge i L.length with h1 | h1
 · exact h1
 · rw[List.getElem?_eq_none h1]at h;cases h
theorem fg_at {L:List FG} {i:Nat} (hi:i<L.length):∃f,L[i]? =some f∧fgAt L i=FG.J i f:=⟨L[i],by simp[hi],by unfold fgAt;simp[hi]⟩
theorem wp_region_fg {P:Program} {a0:Act} {id:Nat} {Q:Exit→Act→World→Prop} {w:World} {l:List Oper} (n:Nat) (L:List FG) (cons:List (Nat × Nat)) (hm:P.follows .mixedOrders=true) (hn:L.length=n) (hcs:fgCons L=cons)
 (hB:freeB2 l.toArray n cons=true) (hF:fgB l.toArray L=true) (hop:∀i,i<n→OpOkV P l.toArray a0 w.drew n (fgAt L) cons i)
 (hL:∀u w' (S:Nat→Nat→Prop),Ext w.drew w'→(∀i,i<n→(∀c,(c,i) ∉ cons)→fgAt L i u w' (S i))→(∀i b,S i b→w.drew.heap.size≤b∧b<w'.heap.size)→(∀i j b,S i b→S j b→i=j)→wpList P l.toArray Q (l.drop n) (fr l.toArray a0 u n) w'):(Code.region id l.toArray true).wp P Q a0 w:=by
 subst hn hcs
 have hF':∀p,p∈fgCons L→p.2<L.length∧waitsOn l.toArray p.1 p.2=true∧∃t v,L[p.2]? =some (.new t v)∧soft1 v=true:=fun p hp=>by
   have:=List.all_eq_true.1 hF p hp
   simp only[Bool.and_eq_true,decide_eq_true_eq]at this
   obtain⟨⟨h1,h2⟩,h3⟩:=this
   refine⟨h1,h2,?_⟩
   rw[List.getElem?_eq_getElem h1]at h3 ⊢
   obtain⟨t,v,he,hv⟩:=FG.soft_new (f:=L[p.2]) h3
   exact⟨t,v,by rw[he],hv⟩
 refine wp_region_freeV Zg L.length (fgAt L) (fgCons L) hm hB ?_ ?_ (fun p hp=>⟨(hF' p hp).1,(hF' p hp).2.1⟩) ?_ hop hL
 · intro i hi
   obtain⟨f,hf,he⟩:=fg_at hi
   rw[he]
   intro u wx w' S h hU
   have hT:∀b,(w.drew.heap.size≤b∧¬S b∧Zg wx b)→Zg wx b:=fun b hb=>hb.2.2
   cases f with
   | val s=>exact Sg.change h hU hT
   | tup2 a b=>obtain⟨v1,v2,e,h1,h2⟩:=h;exact⟨v1,v2,e,Sg.change h1 hU hT,Sg.change h2 hU hT⟩
   | tup3 a b c=>obtain⟨v1,v2,v3,e,h1,h2,h3⟩:=h;exact⟨v1,v2,v3,e,Sg.change h1 hU hT,Sg.change h2 hU hT,Sg.change h3 hU hT⟩
   | new t v=>obtain⟨g,e,hb,hs,hall⟩:=h;exact⟨g,e,hb.upd hU (fun h=>h.2.1 hs),hs,hall⟩
   | set d t q=>obtain⟨g,x,e,hb,hs,hv⟩:=h;exact⟨g,x,e,hb.upd hU (fun h=>h.2.1 hs),hs,q.ch _ _ _ _ hv hU hT⟩
   | row t v=>obtain⟨g,e,hb,hs⟩:=h;exact⟨g,e,hb.upd hU (fun h=>h.2.1 hs),hs⟩
 · intro i hi
   obtain⟨f,hf,he⟩:=fg_at hi
   rw[he]
   intro u u' wx S hu h
   have hi':=hu i (.inl rfl)
   cases f with
   | val s=>exact(show s.H (u' i) wx from hi'▸(show s.H (u i) wx from h))
   | tup2 a b=>obtain⟨v1,v2,e,h1,h2⟩:=h;exact⟨v1,v2,hi'▸e,h1,h2⟩
   | tup3 a b c=>obtain⟨v1,v2,v3,e,h1,h2,h3⟩:=h;exact⟨v1,v2,v3,hi'▸e,h1,h2,h3⟩
   | new t v=>obtain⟨g,e,hb,hs,hall⟩:=h;exact⟨g,hi'▸e,hb,hs,hall⟩
   | set d t q=>
     obtain⟨g,x,e,hb,hs,hv⟩:=h
     obtain⟨h1,h2, -⟩:=hF' _ (fg_cons hf)
     exact⟨g,x,(hu d (.inr ⟨h1,h2⟩))▸e,hb,hs,hv⟩
   | row t v=>obtain⟨g,e,hb,hs⟩:=h;exact⟨g,hi'▸e,hb,hs⟩
 · intro p hp u wx S b hj hs
   obtain⟨h1, -,t,v,he,hv⟩:=hF' p hp
   obtain⟨f,hf,he2⟩:=fg_at h1
   rw[he]at hf
   injection hf with hf
   subst hf
   rw[he2]at hj
   obtain⟨g,e,hb,hs',hall⟩:=hj
   rw[hall b hs]
   exact⟨t,v,hb,hv⟩
end Go.Proofs.YtbhhjfhepkbfgaaGreat
namespace Go.Proofs.YtbhhjfhepkbfgaaGreat
set_option linter.unusedSimpArgs false
set_option linter.unusedVariables false
open Go.RowKit
open Nt
theorem Box.bx {w:World} {g:Nat} {t:TypeId} {v:Value} (h:Bx w g t v):Box w g t v:=h
theorem NatV.changeg {w w':World} {v:Value} {n:Nat} {T:Nat→Prop} (h:NatV w v n) (hU:Upd T w w') (hT:∀b,T b→Zg w b):NatV w' v n:=by
 obtain⟨s,rfl,A,c,xs,h1,h2,h3,h4,h5⟩:=h
 exact⟨s,rfl,A,c,xs,h1,h2,h3,h4.changeg (fun _=>rfl) hU hT,h5⟩
@[reducible] def natP (n : Nat) : Pv := ⟨fun v w => ∃ A l c, v = .agg #[.slice A l c] ∧ NatV w (.agg #[.slice A l c]) n, fun _ _ _ _ ⟨A, l, c, e, h⟩ hU hT => ⟨A, l, c, e, h.changeg hU hT⟩⟩
@[reducible] def natC (n : Nat) : Pv := ⟨fun v w => ∃ A l c, v = .slice A l c ∧ NatV w (.agg #[.slice A l c]) n, fun _ _ _ _ ⟨A, l, c, e, h⟩ hU hT => ⟨A, l, c, e, h.changeg hU hT⟩⟩
def NTwo (w:World) (A:Option Addr) (ns:List Nat):Prop:=
 ∃g t A0 l0 c0 A1 l1 c1 a b,A=some ⟨g,0,none⟩∧ns=[a,b]∧w.heap[g]? =some (.cells #[.slice A0 l0 c0,.slice A1 l1 c1] t (0,0))∧NatV w (.agg #[.slice A0 l0 c0]) a∧NatV w (.agg #[.slice A1 l1 c1]) b
theorem NTwo.changeg {w w':World} {A:Option Addr} {ns:List Nat} {T:Nat→Prop} (h:NTwo w A ns) (hU:Upd T w w') (hT:∀b,T b→Zg w b):NTwo w' A ns:=by
 obtain⟨g,t,A0,l0,c0,A1,l1,c1,a,b,e1,e2,hg,ha,hb⟩:=h
 refine⟨g,t,A0,l0,c0,A1,l1,c1,a,b,e1,e2,?_,ha.changeg hU hT,hb.changeg hU hT⟩
 refine(hU.block g (Array.getElem?_eq_some_iff.1 hg).1 (fun ht=>?_)).trans hg
 obtain⟨t2,v,hb2, -⟩:=hT _ ht
 unfold Bx at hb2
 rw[hg]at hb2
 injection hb2 with hb2
 injection hb2 with hb2
 have:=congrArg Array.size hb2
 simp at this
theorem NTwo.mk {w:World} {A0 A1:Option Addr} {l0 c0 l1 c1 a b:Nat} (t:TypeId) (ha:NatV w (.agg #[.slice A0 l0 c0]) a) (hb:NatV w (.agg #[.slice A1 l1 c1]) b):NTwo (w.alloc (.cells #[.slice A0 l0 c0,.slice A1 l1 c1] t)) (some ⟨w.heap.size,0,none⟩) [a,b]:=
 ⟨_,t,A0,l0,c0,A1,l1,c1,a,b,rfl,rfl,heap_alloc_new w _,ha.ext ((Upd.refl _ _).alloc _),hb.ext ((Upd.refl _ _).alloc _)⟩
theorem NTwo.natL {w:World} {A:Option Addr} {ns:List Nat} (h:NTwo w A ns):NatL w A ns:=by
 obtain⟨g,t,A0,l0,c0,A1,l1,c1,a,b,rfl,rfl,hg,ha,hb⟩:=h
 refine⟨[(A0,l0,c0),(A1,l1,c1)],rfl,fun i hi=>⟨g,0,rfl,?_⟩,fun i hi=>?_⟩
 · match i,hi with
   | 0,_=>simp[World.cell?,hg,gat,svt]
   | 1,_=>simp[World.cell?,hg,gat,svt]
 · match i,hi with
   | 0,_=>exact ha
   | 1,_=>exact hb
@[reducible] def twoP (ns : List Nat) : Pv := ⟨fun v w => ∃ A l c, v = .slice A l c ∧ (l = 2 ∧ c = 2 ∧ NTwo w A ns), fun _ _ _ _ ⟨A, l, c, e, h1, h2, h⟩ hU hT => ⟨A, l, c, e, h1, h2, h.changeg hU hT⟩⟩
end Go.Proofs.YtbhhjfhepkbfgaaGreat
