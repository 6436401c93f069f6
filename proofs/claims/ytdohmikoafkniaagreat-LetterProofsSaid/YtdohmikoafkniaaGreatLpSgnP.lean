/- Signatures, plainly. -/
import Derived.Test.YtdohmikoafkniaaGreatLpFreeG
import Derived.Test.YtdohmikoafkniaaGreatLpSgnB
namespace Go.Proofs.YtdohmikoafkniaaGreat
set_option linter.unusedSimpArgs false
set_option linter.unusedVariables false
open Go.RowKit
open Nt
theorem Box.bx {w:World} {g:Nat} {t:TypeId} {v:Value} (h:Bx w g t v):Box w g t v:=h
theorem NatV.changeg {w w':World} {v:Value} {n:Nat} {T:Nat→Prop} (h:NatV w v n) (hU:Upd T w w') (hT:∀b,T b→Zg w b):NatV w' v n:=by
 obtain⟨s,rfl,A,c,xs,h1,h2,h3,h4,h5⟩:=h
 exact⟨s,rfl,A,c,xs,h1,h2,h3,h4.changeg (fun _=>rfl) hU hT,h5⟩
@[reducible] def natP (n : Nat) : Pv := ⟨fun v w => ∃ A l c, v = .agg #[.slice A l c] ∧ NatV w (.agg #[.slice A l c]) n, fun _ _ _ _ ⟨A, l, c, e, h⟩ hU hT => ⟨A, l, c, e, h.changeg hU hT⟩⟩
@[reducible] def natC (n : Nat) : Pv := ⟨fun v w => ∃ A l c, v = .slice A l c ∧ NatV w (.agg #[.slice A l c]) n, fun _ _ _ _ ⟨A, l, c, e, h⟩ hU hT => ⟨A, l, c, e, h.changeg hU hT⟩⟩
def NTwo (w:World) (A:Option Addr) (ns:List Nat):Prop:=
 ∃g t A0 l0 c0 A1 l1 c1 a b,A=some ⟨g,0,none⟩∧ns=[a,b]∧w.heap[g]? =some (.cells #[.slice A0 l0 c0,.slice A1 l1 c1] t (0,0))∧NatV w (.agg #[.slice A0 l0 c0]) a∧NatV w (.agg #[.slice A1 l1 c1]) b
theorem NTwo.changeg {w w':World} {A:Option Addr} {ns:List Nat} {T:Nat→Prop} (h:NTwo w A ns) (hU:Upd T w w') (hT:∀b,T b→Zg w b):NTwo w' A ns:=by
 obtain⟨g,t,A0,l0,c0,A1,l1,c1,a,b,e1,e2,hg,ha,hb⟩:=h
 refine⟨g,t,A0,l0,c0,A1,l1,c1,a,b,e1,e2,?_,ha.changeg hU hT,hb.changeg hU hT⟩
 refine(hU.block g (Array.getElem?_eq_some_iff.1 hg).1 (fun ht=>?_)).trans hg
 obtain⟨t2,v,hb2, -⟩:=hT _ ht
 unfold Bx at hb2
 rw[hg]at hb2
 injection hb2 with hb2
 injection hb2 with hb2
 have:=congrArg Array.size hb2
 simp at this
theorem NTwo.mk {w:World} {A0 A1:Option Addr} {l0 c0 l1 c1 a b:Nat} (t:TypeId) (ha:NatV w (.agg #[.slice A0 l0 c0]) a) (hb:NatV w (.agg #[.slice A1 l1 c1]) b):NTwo (w.alloc (.cells #[.slice A0 l0 c0,.slice A1 l1 c1] t)) (some ⟨w.heap.size,0,none⟩) [a,b]:=
 ⟨_,t,A0,l0,c0,A1,l1,c1,a,b,rfl,rfl,heap_alloc_new w _,ha.ext ((Upd.refl _ _).alloc _),hb.ext ((Upd.refl _ _).alloc _)⟩
theorem NTwo.natL {w:World} {A:Option Addr} {ns:List Nat} (h:NTwo w A ns):NatL w A ns:=by
 obtain⟨g,t,A0,l0,c0,A1,l1,c1,a,b,rfl,rfl,hg,ha,hb⟩:=h
 refine⟨[(A0,l0,c0),(A1,l1,c1)],rfl,fun i hi=>⟨g,0,rfl,?_⟩,fun i hi=>?_⟩
 · match i,hi with
   | 0,_=>simp[World.cell?,hg,gat,svt]
   | 1,_=>simp[World.cell?,hg,gat,svt]
 · match i,hi with
   | 0,_=>exact ha
   | 1,_=>exact hb
@[reducible] def twoP (ns : List Nat) : Pv := ⟨fun v w => ∃ A l c, v = .slice A l c ∧ (l = 2 ∧ c = 2 ∧ NTwo w A ns), fun _ _ _ _ ⟨A, l, c, e, h1, h2, h⟩ hU hT => ⟨A, l, c, e, h1, h2, h.changeg hU hT⟩⟩
end Go.Proofs.YtdohmikoafkniaaGreat
namespace Go.Proofs.YtdohmikoafkniaaGreat
set_option linter.unusedSimpArgs false
set_option linter.unusedVariables false
open Go.RowKit
open Nt Sha
attribute [local go_sem] steady steadyUpon Cls same_cell anyW
attribute [local irreducible] wpHead wpTree wpHeadR sum chalOf
theorem prodE_two (a b x y:Nat):prodE [a,b] [x,y] 2=a^x*b^y:=by simp[prodE,gat]
theorem cmpI_eq0 (x y:Nat):(cmpI x y == 0)=decide (x=y):=by
 unfold cmpI
 by_cases h:x<y
 · rw[if_pos h,decide_eq_false (by omega)];rfl
 · rw[if_neg h]
   by_cases h2:x=y
   · rw[decide_eq_true h2,if_pos h2];rfl
   · rw[decide_eq_false h2,if_neg h2];rfl
theorem fit_bs128 {k n:Nat} {bs:List (BitVec 8)} (h:bs.length≤n) (hk:n≤4*k):Fit k (ofB bs):=by
 have h1:=ofB_lt bs
 unfold Fit
 refine Nat.lt_of_lt_of_le h1 ?_
 rw[show(256:Nat)=2^8 by decide,show W32=2^32 by decide,←Nat.pow_mul,←Nat.pow_mul]
 exact Nat.pow_le_pow_right (by omega) (by omega)
section
variable (gr P Q G H k : Nat) (w : World)
end
end Go.Proofs.YtdohmikoafkniaaGreat
namespace Go.Proofs.YtdohmikoafkniaaGreat
set_option linter.unusedSimpArgs false
set_option linter.unusedVariables false
open Go.RowKit
open Nt Sha
attribute [local irreducible] sum chalOf
structure GOk (P Q G:Nat):Prop where
 one:G^Q % P=1
 two:2≤P
 sml:64<Q
theorem gok (r:Nat) (hr:r<3):GOk (grP r) (grQ r) (grG r):=by
 match r,hr with
 | 0,_=>exact⟨by rw[pow_is 70 (by decide)];decide+kernel,by decide,by decide⟩
 | 1,_=>exact⟨by rw[pow_is 70 (by decide)];decide+kernel,by decide,by decide⟩
 | 2,_=>exact⟨by rw[pow_is 70 (by decide)];decide+kernel,by decide,by decide⟩
section
variable {P Q G : Nat}
theorem one_pow_mod (h:2≤P) {a t:Nat} (ha:a % P=1):a^t % P=1:=by
 rw[Nat.pow_mod,ha,Nat.one_pow,Nat.mod_eq_of_lt (by omega)]
theorem mem_of {a:Nat} (h:GOk P Q G) (ha:a^Q % P=1):memB P Q (a % P)=true:=by
 have h1:(a % P)^Q % P=1:=by rw[←Nat.pow_mod];exact ha
 have h0:0<a % P:=by
  rcases Nat.eq_zero_or_pos (a % P)with h2 | h2
  · rw[h2,Nat.zero_pow (by have:=h.sml;omega),Nat.zero_mod]at h1;omega
  · exact h2
 unfold memB
 rw[decide_eq_true h0,decide_eq_true (Nat.mod_lt _ (by have:=h.two;omega)),decide_eq_true h1]
 rfl
theorem GOk.mem0 :memB P Q 0=false:=by unfold memB;rw[decide_eq_false (by omega)];rfl
end
end Go.Proofs.YtdohmikoafkniaaGreat
