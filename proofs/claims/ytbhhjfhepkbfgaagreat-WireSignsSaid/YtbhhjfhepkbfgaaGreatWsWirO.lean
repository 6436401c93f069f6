/- An entry and the document's, out of bytes: of, walked. -/
import Derived.Test.YtbhhjfhepkbfgaaGreatWsWirN
namespace Go.Proofs.YtbhhjfhepkbfgaaGreat
set_option linter.unusedSimpArgs false
set_option linter.unusedVariables false
open Go.RowKit
open Nt Sha
attribute [local go_sem] steady steadyUpon Cls same_cell
attribute [local irreducible] wpHead wpTree
def ecs (x:Pl) (v:Value):Array Value:=#[.int .i64 x.K,.int .i64 x.au,.int .i64 x.ep,.int .i64 x.mode,.int .i64 x.peer,.int .i64 x.phase,v,.slice x.L2 x.lt x.c2,.slice x.P x.lp x.c3]
def OffL (w:World) (B:Nat) (D F A:Option Addr) (l:Nat):Prop:=0<l→∀k,inA A k→(B≤k∧k<w.heap.size)∧¬inA D k∧¬inA F k
theorem NatV.apartL {w w':World} {A:Option Addr} {l c n:Nat} {T:Nat→Prop} (h:NatV w (.agg #[.slice A l c]) n) (hu:Upd T w w') (hT:0<l→∀k,inA A k→¬T k):NatV w' (.agg #[.slice A l c]) n:=by
 obtain⟨A',l',c',xs,e,h1,h2,h3,h4,h5,h6⟩:=h.open_
 injection e with e
 simp at e
 obtain⟨rfl,rfl,rfl⟩:=e
 refine⟨.slice A l c,rfl,A,c,xs,by rw[h1],by omega,h3,?_,by rw[h1];exact h5,h6⟩
 rcases Nat.eq_zero_or_pos l with h0 | h0
 · rw[List.eq_nil_of_length_eq_zero (h1.trans h0)]
   exact Sl.nil
 · exact h4.upd hu (fun b o hb=>hT h0 b (by rw[hb];simp[inA]))
theorem RefV.apartL {w w':World} {A:Option Addr} {l c n:Nat} {T:Nat→Prop} (h:RefV w (.slice A l c) n) (hu:Upd T w w') (hT:0<l→∀k,inA A k→¬T k):RefV w' (.slice A l c) n:=by
 obtain⟨A',l',c',xs,e,h1,h2,h3,h4,h5,h6⟩:=h.open_
 injection e with e1 e2 e3
 subst e1 e2 e3
 refine⟨A,c,xs,by rw[h1],by omega,h3,?_,by rw[h1];exact h5,h6⟩
 rcases Nat.eq_zero_or_pos l with h0 | h0
 · rw[List.eq_nil_of_length_eq_zero (h1.trans h0)]
   exact Sl.nil
 · exact h4.upd hu (fun b o hb=>hT h0 b (by rw[hb];simp[inA]))
theorem nat_lt {w:World} {A:Option Addr} {l c n:Nat} (h:NatV w (.agg #[.slice A l c]) n):0<l→∀k,inA A k→k<w.heap.size:=fun h0 k hk=>by
  obtain⟨A',l',c',xs,e,h1,h2,h3,h4,h5,h6⟩:=h.open_
  injection e with e
  simp at e
  obtain⟨rfl,rfl,rfl⟩:=e
  obtain⟨b,o,rfl,hb, -⟩:=h4.open_ (by omega)
  simp[inA]at hk
  omega
theorem ref_lt {w:World} {A:Option Addr} {l c n:Nat} (h:RefV w (.slice A l c) n):0<l→∀k,inA A k→k<w.heap.size:=fun h0 k hk=>by
  obtain⟨A',l',c',xs,e,h1,h2,h3,h4,h5,h6⟩:=h.open_
  injection e with e1 e2 e3
  subst e1 e2 e3
  obtain⟨b,o,rfl,hb, -⟩:=h4.open_ (by omega)
  simp[inA]at hk
  omega
theorem own_apart' {w:World} {B B':Nat} {e e':TypeId} {A A':Option Addr} {c c':Nat} {xs xs':List Value} (h:Own w B e A c xs) (h':Own w B' e' A' c' xs') (hne:e≠e') {k:Nat} (hk:inA A k):¬inA A' k:=fun hk'=>by
  rcases h.2 with ⟨h0,_⟩ | ⟨g,cap,cur,hv,hb,hg,_⟩
  · injection h0 with h0;subst h0;simp[inA]at hk
  · rcases h'.2 with ⟨h0,_⟩ | ⟨g',cap',cur',hv',hb',hg',_⟩
    · injection h0 with h0;subst h0;simp[inA]at hk'
    · injection hv with hA;injection hv' with hA'
      subst hA;subst hA'
      simp[inA]at hk hk'
      subst hk;subst hk'
      rw[hg]at hg'
      injection hg' with hg'
      injection hg' with _ he
      exact hne he
structure Wq (w:World) (B g4 g5:Nat) (x:Pl) (D F:Option Addr) (lD cD lF cF:Nat) (tb rb:List Tri) (ps qs:List Nat):Prop where
 t4:Blk w g4 48 (ecs x (.slice D lD cD))
 t5:Blk w g5 51 (ecs x (.slice F lF cF))
 oD:Own w B 39 D cD (tb.map svt)
 oF:Own w B 32 F cF (rb.map svt)
 ltb:tb.length=lD
 lrb:rb.length=lF
 lps:ps.length=lD
 lqs:qs.length=lF
 h4:B≤g4
 h5:B≤g5
 nt:∀i,i<lD→NatV w (.agg #[svt (gat tb i)]) (gat ps i)∧OffL w B D F (gat tb i).1 (gat tb i).2.1∧(0<(gat tb i).2.1→∀k,inA (gat tb i).1 k→k≠g4∧k≠g5)
 rt:∀i,i<lF→RefV w (svt (gat rb i)) (gat qs i)∧OffL w B D F (gat rb i).1 (gat rb i).2.1∧(0<(gat rb i).2.1→∀k,inA (gat rb i).1 k→k≠g4∧k≠g5)
section wq
variable {w w' w1 w3 : World} {B g4 g5 : Nat} {x : Pl} {D F D2 F2 : Option Addr} {lD cD lF cF c2 : Nat} {tb rb : List Tri} {ps qs : List Nat} {A : Option Addr} {l c p : Nat}
theorem OffL.size {T:Nat→Prop} (h:OffL w B D F A l) (hu:Upd T w w'):OffL w' B D F A l:=fun h0 k hk=>⟨⟨(h h0 k hk).1.1,Nat.lt_of_lt_of_le (h h0 k hk).1.2 hu.size⟩,(h h0 k hk).2⟩
theorem Wq.ext (h:Wq w B g4 g5 x D F lD cD lF cF tb rb ps qs) (hu:Ext w w'):Wq w' B g4 g5 x D F lD cD lF cF tb rb ps qs:=
 ⟨h.t4.ext hu,h.t5.ext hu,h.oD.ext hu,h.oF.ext hu,h.ltb,h.lrb,h.lps,h.lqs,h.h4,h.h5,fun i hi=>⟨(h.nt i hi).1.ext hu,(h.nt i hi).2.1.size hu,(h.nt i hi).2.2⟩,fun i hi=>⟨(h.rt i hi).1.ext hu,(h.rt i hi).2.1.size hu,(h.rt i hi).2.2⟩⟩
theorem gat_app_l {α:Type} [Inhabited α] {xs:List α} {y:α} {i:Nat} (h:i<xs.length):gat (xs++[y]) i=gat xs i:=gat_append_left h
theorem gat_app_r {α:Type} [Inhabited α] {xs:List α} {y:α} {i:Nat} (h:i=xs.length):gat (xs++[y]) i=y:=by
 rw[gat_append_right (by omega),h,Nat.sub_self];rfl
theorem blk_ne {g h:Nat} {t t':TypeId} {cs cs':Array Value} (a:Blk w g t cs) (b:Blk w h t' cs') (hne:t≠t'):g≠h:=fun e=>by
  rw[e]at a
  unfold Blk at a b
  rw[a]at b
  injection b with b
  injection b with _ b
  exact hne b
theorem Wq.push4 (h:Wq w B g4 g5 x D F lD cD lF cF tb rb ps qs) (hB:B≤w.heap.size)
 (hE:Ext w w1) (hV:NatV w1 (.agg #[.slice A l c]) p) (hA:∀k,inA A k→w.heap.size≤k) (hO:Own w3 B 39 D2 c2 ((tb++[((A,l,c):Tri)]).map svt)) (hU:Upd (inA D) w1 w3) (hin:∀k,inA D2 k→inA D k∨k=w1.heap.size):
 Wq (w3.setCell ⟨g4,6,none⟩ (.slice D2 (lD+1) c2)) B g4 g5 x D2 F (lD+1) c2 lF cF (tb++[((A,l,c):Tri)]) rb (ps++[p]) qs∧Upd (fun k=>B≤k) w (w3.setCell ⟨g4,6,none⟩ (.slice D2 (lD+1) c2)):=by
 have h1:=h.ext hE
 have n4:¬inA D g4:=own_blk h1.oD h1.t4 (by decide)
 have n5:¬inA D g5:=own_blk h1.oD h1.t5 (by decide)
 have t4:=h1.t4.upd hU n4
 have t5:=h1.t5.upd hU n5
 have oF:=h1.oF.upd hU (fun k hk=>own_apart' h1.oF h1.oD (by decide) hk)
 have m4:¬inA D2 g4:=own_blk hO t4 (by decide)
 have m4F:¬inA F g4:=own_blk oF t4 (by decide)
 have n45:g5≠g4:=blk_ne h.t5 h.t4 (by decide)
 have hU4:Upd (only g4) w3 (w3.setCell ⟨g4,6,none⟩ (.slice D2 (lD+1) c2)):=(Upd.refl _ _).setCell (T:=only g4) (p:=⟨g4,6,none⟩) (.inl rfl) _
 have sz:w1.heap.size≤w3.heap.size:=hU.size
 have sz4:w3.heap.size≤(w3.setCell ⟨g4,6,none⟩ (.slice D2 (lD+1) c2)).heap.size:=hU4.size
 have off:∀A' l',OffL w1 B D F A' l'→OffL (w3.setCell ⟨g4,6,none⟩ (.slice D2 (lD+1) c2)) B D2 F A' l':=fun A' l' ho h0 k hk=>by
   obtain⟨⟨o0,o1⟩,o2,o3⟩:=ho h0 k hk
   exact⟨⟨o0,Nat.lt_of_lt_of_le o1 (Nat.le_trans sz sz4)⟩,fun hd=>(hin k hd).elim o2 (fun e=>by omega),o3⟩
 have t4':Blk (w3.setCell ⟨g4,6,none⟩ (.slice D2 (lD+1) c2)) g4 48 (ecs x (.slice D2 (lD+1) c2)):=t4.set 6 _
 refine⟨⟨t4',t5.upd hU4 (fun h=>n45 h),hO.upd hU4 (fun k hk e=>by have:k=g4:=e;subst this;exact m4 hk),oF.upd hU4 (fun k hk e=>by have:k=g4:=e;subst this;exact m4F hk),by rw[List.length_append,h.ltb];rfl,h.lrb,by rw[List.length_append,h.lps];rfl,h.lqs,h.h4,h.h5,fun i hi=>?_,fun i hi=>?_⟩,?_⟩
 · by_cases hlt:i<lD
   · rw[gat_app_l (by rw[h.ltb];exact hlt),gat_app_l (by rw[h.lps];exact hlt)]
     obtain⟨q1,q2,q3⟩:=h1.nt i hlt
     exact⟨(NatV.apartL q1 hU (fun h0 k hk=>(q2 h0 k hk).2.1)).apartL hU4 (fun h0 k hk e=>(q3 h0 k hk).1 e),off _ _ q2,q3⟩
   · have e:i=lD:=by omega
     rw[gat_app_r (by rw[h.ltb];exact e),gat_app_r (by rw[h.lps];exact e)]
     have hD:∀k,inA A k→¬inA D k:=fun k hk hd=>by
       have a:=hA k hk
       have b:=(h.oD.in_ hd).2
       omega
     have hg4:=h.t4.lt
     have hg5:=h.t5.lt
     have hlt1:=nat_lt hV
     refine⟨(NatV.apartL hV hU (fun _=>hD)).apartL hU4 (fun h0 k hk e=>by have:k=g4:=e;have:=hA k hk;omega),fun h0 k hk=>⟨⟨Nat.le_trans hB (hA k hk),Nat.lt_of_lt_of_le (hlt1 h0 k hk) (Nat.le_trans sz sz4)⟩,fun hd=>(hin k hd).elim (hD k hk) (fun e=>by have:=hlt1 h0 k hk;omega),fun hf=>?_⟩,fun h0 k hk=>?_⟩
     · have a:=hA k hk
       have b:=(h.oF.in_ hf).2
       omega
     · have a:=hA k hk
       omega
 · obtain⟨q1,q2,q3⟩:=h1.rt i hi
   exact⟨(RefV.apartL q1 hU (fun h0 k hk=>(q2 h0 k hk).2.1)).apartL hU4 (fun h0 k hk e=>(q3 h0 k hk).1 e),off _ _ q2,q3⟩
 · have:=h.h4
   exact((Upd.ofExt hE).trans' hU (fun i hi hd=>(h1.oD.in_ hd).1)).trans' hU4 (fun i hi e=>by have:i=g4:=e;omega)
theorem Wq.push5 (h:Wq w B g4 g5 x D F lD cD lF cF tb rb ps qs) (hB:B≤w.heap.size)
 (hE:Ext w w1) (hV:RefV w1 (.slice A l c) p) (hA:∀k,inA A k→w.heap.size≤k) (hO:Own w3 B 32 F2 c2 ((rb++[((A,l,c):Tri)]).map svt)) (hU:Upd (inA F) w1 w3) (hin:∀k,inA F2 k→inA F k∨k=w1.heap.size):
 Wq (w3.setCell ⟨g5,6,none⟩ (.slice F2 (lF+1) c2)) B g4 g5 x D F2 lD cD (lF+1) c2 tb (rb++[((A,l,c):Tri)]) ps (qs++[p])∧Upd (fun k=>B≤k) w (w3.setCell ⟨g5,6,none⟩ (.slice F2 (lF+1) c2)):=by
 have h1:=h.ext hE
 have n4:¬inA F g4:=own_blk h1.oF h1.t4 (by decide)
 have n5:¬inA F g5:=own_blk h1.oF h1.t5 (by decide)
 have t4:=h1.t4.upd hU n4
 have t5:=h1.t5.upd hU n5
 have oD:=h1.oD.upd hU (fun k hk=>own_apart' h1.oD h1.oF (by decide) hk)
 have m5:¬inA F2 g5:=own_blk hO t5 (by decide)
 have m5D:¬inA D g5:=own_blk oD t5 (by decide)
 have n45:g4≠g5:=blk_ne h.t4 h.t5 (by decide)
 have hU4:Upd (only g5) w3 (w3.setCell ⟨g5,6,none⟩ (.slice F2 (lF+1) c2)):=(Upd.refl _ _).setCell (T:=only g5) (p:=⟨g5,6,none⟩) (.inl rfl) _
 have sz:w1.heap.size≤w3.heap.size:=hU.size
 have sz4:w3.heap.size≤(w3.setCell ⟨g5,6,none⟩ (.slice F2 (lF+1) c2)).heap.size:=hU4.size
 have off:∀A' l',OffL w1 B D F A' l'→OffL (w3.setCell ⟨g5,6,none⟩ (.slice F2 (lF+1) c2)) B D F2 A' l':=fun A' l' ho h0 k hk=>by
   obtain⟨⟨o0,o1⟩,o2,o3⟩:=ho h0 k hk
   exact⟨⟨o0,Nat.lt_of_lt_of_le o1 (Nat.le_trans sz sz4)⟩,o2,fun hd=>(hin k hd).elim o3 (fun e=>by omega)⟩
 have t5':Blk (w3.setCell ⟨g5,6,none⟩ (.slice F2 (lF+1) c2)) g5 51 (ecs x (.slice F2 (lF+1) c2)):=t5.set 6 _
 refine⟨⟨t4.upd hU4 (fun h=>n45 h),t5',oD.upd hU4 (fun k hk e=>by have:k=g5:=e;subst this;exact m5D hk),hO.upd hU4 (fun k hk e=>by have:k=g5:=e;subst this;exact m5 hk),h.ltb,by rw[List.length_append,h.lrb];rfl,h.lps,by rw[List.length_append,h.lqs];rfl,h.h4,h.h5,fun i hi=>?_,fun i hi=>?_⟩,?_⟩
 · obtain⟨q1,q2,q3⟩:=h1.nt i hi
   exact⟨(NatV.apartL q1 hU (fun h0 k hk=>(q2 h0 k hk).2.2)).apartL hU4 (fun h0 k hk e=>(q3 h0 k hk).2 e),off _ _ q2,q3⟩
 · by_cases hlt:i<lF
   · rw[gat_app_l (by rw[h.lrb];exact hlt),gat_app_l (by rw[h.lqs];exact hlt)]
     obtain⟨q1,q2,q3⟩:=h1.rt i hlt
     exact⟨(RefV.apartL q1 hU (fun h0 k hk=>(q2 h0 k hk).2.2)).apartL hU4 (fun h0 k hk e=>(q3 h0 k hk).2 e),off _ _ q2,q3⟩
   · have e:i=lF:=by omega
     rw[gat_app_r (by rw[h.lrb];exact e),gat_app_r (by rw[h.lqs];exact e)]
     have hD:∀k,inA A k→¬inA F k:=fun k hk hd=>by
       have a:=hA k hk
       have b:=(h.oF.in_ hd).2
       omega
     have hg4:=h.t4.lt
     have hg5:=h.t5.lt
     have hlt1:=ref_lt hV
     refine⟨(RefV.apartL hV hU (fun _=>hD)).apartL hU4 (fun h0 k hk e=>by have:k=g5:=e;have:=hA k hk;omega),fun h0 k hk=>⟨⟨Nat.le_trans hB (hA k hk),Nat.lt_of_lt_of_le (hlt1 h0 k hk) (Nat.le_trans sz sz4)⟩,fun hf=>?_,fun hd=>(hin k hd).elim (hD k hk) (fun e=>by have:=hlt1 h0 k hk;omega)⟩,fun h0 k hk=>?_⟩
     · have a:=hA k hk
       have b:=(h.oD.in_ hf).2
       omega
     · have a:=hA k hk
       omega
 · have:=h.h5
   exact((Upd.ofExt hE).trans' hU (fun i hi hd=>(h1.oF.in_ hd).1)).trans' hU4 (fun i hi e=>by have:i=g5:=e;omega)
end wq
end Go.Proofs.YtbhhjfhepkbfgaaGreat
