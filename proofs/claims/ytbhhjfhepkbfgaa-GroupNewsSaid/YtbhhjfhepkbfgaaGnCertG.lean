/- Prime, walked; lists of the document's numbers; what lasts beside slices under way. -/
import Derived.Test.YtbhhjfhepkbfgaaGnRefL
import Derived.Test.YtbhhjfhepkbfgaaGnFresh
import Derived.Test.YtbhhjfhepkbfgaaGnOwk
namespace Go.Proofs.Ytbhhjfhepkbfgaa
set_option linter.unusedSimpArgs false
set_option linter.unusedVariables false
open Go.RowKit
open Nt Pk
attribute [local go_sem] steady steadyUpon Cls same_cell
attribute [local irreducible] wpHead wpTree
def primeB (n:Nat) (ss:List St):Bool:=smallB n || (decide (checkE ss=0) && ss.any fun s=>s.N == n)
set_option maxRecDepth 100000 in
set_option maxHeartbeats 4000000 in
theorem cprime_any (v:Value) (x K:Nat) (A:Option Addr) (n c:Nat) (ss:List St) (w:World) (hV:NatV w v x) (hFx:Fit K x) (hL:StepL w A ss) (hn:ss.length=n) (hn2:n≤1000) (hF:∀i,i<ss.length→FitS K (gat ss i)) (hK1:1≤K) (hK:K≤1000):
 Calls Try.prog 27 #[v,.slice A n c] w fun e w'=>e=.returned (.bool (primeB x ss))∧Ext w w':=by
 obtain⟨A0,la,ca,xs,rfl, -⟩:=hV.open_
 obtain⟨t,ht⟩:∃t,t=primeB x ss:=⟨_,rfl⟩
 rw[←ht]
 have Ht:=hide ht
 have Hn:=hide hn
 have HL:=hide hL
 clear ht hn hL
 go_enter Try.func27,Try.ntmps27
 go_wp2_with fail
 refine name_c (fun W hW=>?_)
 have hE:Ext w W:=by rw[hW];exact(Upd.refl _ _).alloc _
 have b2:Box W w.heap.size 33 (.slice A0 la ca):=by rw[hW];exact Box.new _ _ _
 clear hW
 refine(csmall_any _ x _ (hV.ext hE)).mono ?_
 rintro e w1 ⟨rfl,hU1⟩
 replace b2:=b2.ext hU1
 replace hE:=hE.trans hU1
 clear hU1
 cases hs:smallB x with
 | true=>
   obtain rfl:t=true:=Ht.out.trans (by unfold primeB;rw[hs];rfl)
   clear hs
   go_wp2_with fail
   go_ret
   exact⟨rfl,hE⟩
 | false=>
   have Hs:=hide hs
   clear hs
   go_wp2_with fail
   refine(ccheck_any A n c K ss _ (HL.out.ext hE) Hn.out hn2 hF hK1 hK).mono ?_
   rintro e w2 ⟨rfl,hU2⟩
   replace b2:=b2.ext hU2
   replace hE:=hE.trans hU2
   clear hU2
   by_cases hc:checkE ss=0
   · rw[hc]
     have Hc:=hide hc
     clear hc
     go_wp2_with fail
     go_loopw [14] (fun i wr=>∃j:Nat,j≤n∧i=.int .i64 (j:Int)∧((ss.take j).any fun s=>s.N == x)=false∧Ext w2 wr) (fun i _=>n - (intOf i).toNat)
     case atStart=>exact⟨0,Nat.zero_le _,rfl,rfl,Upd.refl _ _⟩
     case round=>
      obtain⟨j,hj,rfl,hno,hEq⟩:=hrel
      have Hno:=hide hno
      clear hno
      by_cases hlt:j<n
      · have hltI:(j:Int)<(n:Int):=by omega
        obtain⟨b,o,A1,l1,c1,A2,l2,c2,A3,n3,c3,rfl,q0,q1,q2,hV1,hV2,hV3,hn3,hn3c,hc3⟩:=(HL.out.ext (hE.trans hEq)) j (by rw[Hn.out];exact hlt)
        obtain⟨s,hs⟩:∃s,s=gat ss j:=⟨_,rfl⟩
        obtain⟨hFN, -⟩:=hF j (by rw[Hn.out];exact hlt)
        rw[←hs]at hV1 hFN
        have Hs2:=hide hs
        have k2:=((b2.ext hEq).alloc (.cells #[.slice A1 l1 c1,.slice A2 l2 c2,.slice A3 n3 c3] 37)).cell
        clear hs hV2 hV3
        go_wp2_with fail
        refine name_c (fun W hW=>?_)
        have hEW:Ext wr W:=by rw[hW];exact(Upd.refl _ _).alloc _
        clear hW k2 q0 q1 q2
        refine(cmp_any _ _ s.N x K _ (hV1.ext hEW) (hV.ext ((hE.trans hEq).trans hEW)) hFN hFx (by omega)).mono ?_
        rintro e w3 ⟨rfl,hU3⟩
        have hE3:=(hEq.trans hEW).trans hU3
        clear hEW hU3 hV1 hEq
        by_cases hxn:s.N=x
        · rw[cmpI_zero.2 hxn]
          obtain rfl:t=true:=Ht.out.trans (by
           have hh:(ss.any fun s=>s.N == x)=true:=any_at (fun s:St=>s.N == x) (k:=j) (by rw[Hn.out];exact hlt) (by show((gat ss j).N == x)=true;rw[←Hs2.out,hxn];exact beq_self_eq_true _)
           unfold primeB
           rw[Hs.out,decide_eq_true Hc.out,hh]
           rfl)
          clear hxn
          go_wp2_with fail
          go_ret
          exact⟨rfl,hE.trans hE3⟩
        · have hz:¬cmpI s.N x=0:=fun h=>hxn (cmpI_zero.1 h)
          generalize cmpI s.N x=z at hz ⊢
          have hz2:(z == 0)=false:=beq_eq_false_iff_ne.2 hz
          go_wp2_with fail
          go_roundw
          case rel=>exact⟨j+1,by omega,by go_num,by rw[any_take _ (by rw[Hn.out];exact hlt),Hno.out,←Hs2.out];simpa using hxn,hE3⟩
          case measure=>simp[intOf];omega
      · obtain rfl:j=n:=by omega
        have hltI:¬(j:Int)<(j:Int):=by omega
        obtain rfl:t=false:=Ht.out.trans (by
         have:=Hno.out
         rw[List.take_of_length_le (by rw[Hn.out];omega)]at this
         unfold primeB
         rw[Hs.out,decide_eq_true Hc.out,this]
         rfl)
        go_wp2_with fail
        go_ret
        exact⟨rfl,hE.trans hEq⟩
   · obtain rfl:t=false:=Ht.out.trans (by unfold primeB;rw[Hs.out,decide_eq_false hc];rfl)
     generalize checkE ss=z at hc ⊢
     have hz2:(z != 0)=true:=by simp[hc]
     go_wp2_with fail
     go_ret
     exact⟨rfl,hE⟩
def RStepV (w:World) (v:Value) (N b:Nat) (ps:List Nat):Prop:=
 ∃A l c B m d C n e,v=.agg #[.slice A l c,.slice B m d,.slice C n e]∧RefV w (.slice A l c) N∧RefV w (.slice B m d) b∧RefL w C ps∧ps.length=n∧n≤e∧e≤maxLen
def softV :Value→Bool
 | .int _ _=>false
 | .bool _=>false
 | _=>true
def Zw (w:World) (b:Nat):Prop:=∃(cs:Array Value) (t:TypeId) (f:Nat × Nat),w.heap[b]? =some (.cells cs t f)∧∀(i:Nat) (v:Value),cs[i]? =some v→softV v=true
theorem Sl.changew {α:Type} [Inhabited α] {f:α→Value} (hf:∀x,softV (f x)=false) {w w':World} {A:Option Addr} {xs:List α} {T:Nat→Prop} (h:Sl f w A xs) (hU:Upd T w w') (hT:∀b,T b→Zw w b):Sl f w' A xs:=fun i hi=>by
  obtain⟨b,o,e,hc⟩:=h i hi
  refine⟨b,o,e,?_⟩
  rw[←hc]
  refine hU.cell (p:=⟨b,o+i,none⟩) (World.block_lt_of_cell? w _ hc) (fun ht=>?_)
  obtain⟨cs,t,fr,hb,hs⟩:=hT _ ht
  simp only[World.cell?,hb]at hc
  have:=hs _ _ hc
  rw[hf]at this
  cases this
theorem NatV.changew {w w':World} {v:Value} {n:Nat} {T:Nat→Prop} (h:NatV w v n) (hU:Upd T w w') (hT:∀b,T b→Zw w b):NatV w' v n:=by
 obtain⟨s,h0,A,c,xs,h1,h2,h3,h4,h5⟩:=h
 exact⟨s,h0,A,c,xs,h1,h2,h3,h4.changew (fun _=>rfl) hU hT,h5⟩
theorem RefV.changew {w w':World} {v:Value} {n:Nat} {T:Nat→Prop} (h:RefV w v n) (hU:Upd T w w') (hT:∀b,T b→Zw w b):RefV w' v n:=by
 obtain⟨A,c,xs,h1,h2,h3,h4,h5⟩:=h
 exact⟨A,c,xs,h1,h2,h3,h4.changew (fun _=>rfl) hU hT,h5⟩
theorem RefV.apart {w w':World} {A:Option Addr} {l c n:Nat} {T:Nat→Prop} (h:RefV w (.slice A l c) n) (hu:Upd T w w') (hT:∀k,inA A k→¬T k):RefV w' (.slice A l c) n:=by
 obtain⟨A',c',xs,e2,h2,h3,h4,h5⟩:=h
 cases e2
 exact⟨A,c,xs,rfl,h2,h3,h4.upd hu (fun b o hb=>hT b (by rw[hb];simp[inA])),h5⟩
theorem NatV.apart {w w':World} {A:Option Addr} {l c n:Nat} {T:Nat→Prop} (h:NatV w (.agg #[.slice A l c]) n) (hu:Upd T w w') (hT:∀k,inA A k→¬T k):NatV w' (.agg #[.slice A l c]) n:=by
 obtain⟨s,e,A',c',xs,e2,h2,h3,h4,h5⟩:=h
 cases e
 cases e2
 exact⟨_,rfl,A,c,xs,rfl,h2,h3,h4.upd hu (fun b o hb=>hT b (by rw[hb];simp[inA])),h5⟩
theorem Three.zw {w:World} {g:Nat} {t:TypeId} {a b c:Value} (h:Three w g t a b c) (ha:softV a=true) (hb:softV b=true) (hc:softV c=true):Zw w g:=by
 refine⟨_,_,_,h,fun i v hv=>?_⟩
 match i,hv with
 | 0,hv=>simp at hv;rw[←hv];exact ha
 | 1,hv=>simp at hv;rw[←hv];exact hb
 | 2,hv=>simp at hv;rw[←hv];exact hc
 | k+3,hv=>simp at hv
theorem Three.frozen {w:World} {g:Nat} {t:TypeId} {a b c:Value} (h:Three w g t a b c) (o:Nat):w.frozen? ⟨g,o,none⟩=false:=by unfold Three at h;simp[World.frozen?,h]
theorem Three.set2 {w:World} {g:Nat} {t:TypeId} {a b c:Value} (h:Three w g t a b c) (u:Value):Three (w.setCell ⟨g,2,none⟩ u) g t a b u:=by
 unfold Three at*;simp[World.setCell,Array.getElem?_modify,h]
theorem Three.set1 {w:World} {g:Nat} {t:TypeId} {a b c:Value} (h:Three w g t a b c) (u:Value):Three (w.setCell ⟨g,1,none⟩ u) g t a u c:=by
 unfold Three at*;simp[World.setCell,Array.getElem?_modify,h]
theorem Three.set0 {w:World} {g:Nat} {t:TypeId} {a b c:Value} (h:Three w g t a b c) (u:Value):Three (w.setCell ⟨g,0,none⟩ u) g t u b c:=by
 unfold Three at*;simp[World.setCell,Array.getElem?_modify,h]
theorem own_apart {w:World} {B B':Nat} {e e':TypeId} {A A':Option Addr} {c c':Nat} {xs xs':List Value} (h:Own w B e A c xs) (h':Own w B' e' A' c' xs') (hne:e≠e') {k:Nat} (hk:inA A k):¬inA A' k:=fun hk'=>by
  rcases h.2 with ⟨h0,_⟩ | ⟨g,cap,cur,hv,hb,hg,_⟩
  · injection h0 with h0;subst h0;simp[inA]at hk
  · rcases h'.2 with ⟨h0,_⟩ | ⟨g',cap',cur',hv',hb',hg',_⟩
    · injection h0 with h0;subst h0;simp[inA]at hk'
    · injection hv with hA;injection hv' with hA'
      subst hA;subst hA'
      simp[inA]at hk hk'
      subst hk;subst hk'
      rw[hg]at hg'
      injection hg' with hg'
      injection hg' with _ he
      exact hne he
theorem own_three {w:World} {B:Nat} {e t:TypeId} {A:Option Addr} {c g:Nat} {xs:List Value} {x y z:Value} (h:Own w B e A c xs) (h':Three w g t x y z) (hne:e≠t):¬inA A g:=fun hk=>by
  rcases h.2 with ⟨h0,_⟩ | ⟨g',cap,cur,hv,hb,hg,_⟩
  · injection h0 with h0;subst h0;simp[inA]at hk
  · injection hv with hA
    subst hA
    simp[inA]at hk
    subst hk
    unfold Three at h'
    rw[hg]at h'
    injection h' with h'
    injection h' with _ he
    exact hne he
end Go.Proofs.Ytbhhjfhepkbfgaa
