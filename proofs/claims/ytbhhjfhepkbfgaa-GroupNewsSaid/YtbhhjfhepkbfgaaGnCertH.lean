/- A claim as a step, walked: step. -/
import Derived.Test.YtbhhjfhepkbfgaaGnCertG
import Derived.Deep.DeepCutAuto
namespace Go.Proofs.Ytbhhjfhepkbfgaa
set_option linter.unusedSimpArgs false
set_option linter.unusedVariables false
open Go.RowKit
open Nt Pk
attribute [local go_sem] steady steadyUpon Cls same_cell
attribute [local irreducible] wpHead wpTree
theorem Try.n_elR :ElemI Try.prog 41 39 (.slice none 0 0) 24:=⟨by kernel_rfl,by kernel_rfl,rfl⟩
def e64 (x:Nat):Value:=.int .u64 (x:Int)
def W64 (x:Nat):Prop:=x<18446744073709551616
theorem Three.new_at {w:World} {g:Nat} {t:TypeId} {a b c:Value} (hg:w.heap.size=g):Three (w.alloc (.cells #[a,b,c] t)) g t a b c:=by subst hg;exact Three.new _ _ _ _ _
theorem store3 {w:World} {g:Nat} {t:TypeId} {a b c:Value} (h:Three w g t a b c) (x y z:Value):Three (((w.setCell ⟨g,0,none⟩ x).setCell ⟨g,1,none⟩ y).setCell ⟨g,2,none⟩ z) g t x y z∧Upd (only g) w (((w.setCell ⟨g,0,none⟩ x).setCell ⟨g,1,none⟩ y).setCell ⟨g,2,none⟩ z):=
 ⟨((h.set0 x).set1 y).set2 z,(((Upd.refl _ _).setCell (T:=only g) (p:=⟨g,0,none⟩) (.inl rfl) _).setCell (p:=⟨g,1,none⟩) (.inl rfl) _).setCell (p:=⟨g,2,none⟩) (.inl rfl) _⟩
theorem NatV.store3 {w w':World} {g:Nat} {t:TypeId} {a b c v:Value} {n:Nat} (h:NatV w v n) (hg:Three w g t a b c) (ha:softV a=true) (hb:softV b=true) (hc:softV c=true) (hU:Upd (Go.Proofs.Ytbhhjfhepkbfgaa.only g) w w'):NatV w' v n:=
 h.changew hU fun k hk=>by
   have:k=g:=hk
   subst this
   exact hg.zw ha hb hc
theorem RefV.store3 {w w':World} {g:Nat} {t:TypeId} {a b c v:Value} {n:Nat} (h:RefV w v n) (hg:Three w g t a b c) (ha:softV a=true) (hb:softV b=true) (hc:softV c=true) (hU:Upd (Go.Proofs.Ytbhhjfhepkbfgaa.only g) w w'):RefV w' v n:=
 h.changew hU fun k hk=>by
   have:k=g:=hk
   subst this
   exact hg.zw ha hb hc
def New (w w':World) (A:Option Addr):Prop:=∀k,inA A k→w.heap.size≤k∧k<w'.heap.size
theorem New.up {w w' a b:World} {A:Option Addr} (h:New a b A) (ha:w.heap.size≤a.heap.size) (hb:b.heap.size≤w'.heap.size):New w w' A:=fun k hk=>⟨Nat.le_trans ha (h k hk).1,Nat.lt_of_lt_of_le (h k hk).2 hb⟩
def StepR (w:World) (v:Value) (N b:Nat) (ps:List Nat) (R:Nat→Prop):Prop:=
 ∃ A l c B m d C n e,v=.agg #[.slice A l c,.slice B m d,.slice C n e]∧NatV w (.agg #[.slice A l c]) N∧NatV w (.agg #[.slice B m d]) b∧(∃ts:List Tri,ts.length=ps.length∧Sl svt w C ts∧∀i,i<ps.length→NatV w (.agg #[svt (gat ts i)]) (gat ps i)∧∀k,inA (gat ts i).1 k→R k)∧ps.length=n∧n≤e∧e≤maxLen∧
   (∀k,inA A k→R k)∧(∀k,inA B k→R k)∧(∀k,inA C k→R k)
def RStepR (w:World) (v:Value) (N b:Nat) (ps:List Nat) (R:Nat→Prop):Prop:=
 ∃ A l c B m d C n e,v=.agg #[.slice A l c,.slice B m d,.slice C n e]∧RefV w (.slice A l c) N∧RefV w (.slice B m d) b∧(∃ts:List Tri,ts.length=ps.length∧Sl svt w C ts∧∀i,i<ps.length→RefV w (svt (gat ts i)) (gat ps i)∧∀k,inA (gat ts i).1 k→R k)∧ps.length=n∧n≤e∧e≤maxLen∧
   (∀k,inA A k→R k)∧(∀k,inA B k→R k)∧(∀k,inA C k→R k)
theorem StepR.step {w:World} {v:Value} {N b:Nat} {ps:List Nat} {R:Nat→Prop} (h:StepR w v N b ps R):StepV w v N b ps:=by
 obtain⟨A,l,c,B,m,d,C,n,e,h1,h2,h3,⟨ts,t1,t2,t3⟩,h5,h6,h7, -⟩:=h
 exact⟨A,l,c,B,m,d,C,n,e,h1,h2,h3,⟨ts,t1,t2,fun i hi=>(t3 i hi).1⟩,h5,h6,h7⟩
theorem RStepR.step {w:World} {v:Value} {N b:Nat} {ps:List Nat} {R:Nat→Prop} (h:RStepR w v N b ps R):RStepV w v N b ps:=by
 obtain⟨A,l,c,B,m,d,C,n,e,h1,h2,h3,⟨ts,t1,t2,t3⟩,h5,h6,h7, -⟩:=h
 exact⟨A,l,c,B,m,d,C,n,e,h1,h2,h3,⟨ts,t1,t2,fun i hi=>(t3 i hi).1⟩,h5,h6,h7⟩
theorem StepR.apart {w w':World} {v:Value} {N b:Nat} {ps:List Nat} {R R' T:Nat→Prop} (h:StepR w v N b ps R) (hU:Upd T w w') (hT:∀k,R k→¬T k) (hR:∀k,R k→R' k):StepR w' v N b ps R':=by
 obtain⟨A,l,c,B,m,d,C,n,e,h1,h2,h3,⟨ts,t1,t2,t3⟩,h5,h6,h7,r1,r2,r3⟩:=h
 exact⟨A,l,c,B,m,d,C,n,e,h1,NatV.apart h2 hU (fun k hk=>hT k (r1 k hk)),NatV.apart h3 hU (fun k hk=>hT k (r2 k hk)),⟨ts,t1,t2.upd hU (fun b o hb=>hT b (r3 b (by rw[hb];simp[inA]))),fun i hi=>⟨NatV.apart (t3 i hi).1 hU (fun k hk=>hT k ((t3 i hi).2 k hk)),fun k hk=>hR k ((t3 i hi).2 k hk)⟩⟩,h5,h6,h7,fun k hk=>hR k (r1 k hk),fun k hk=>hR k (r2 k hk),fun k hk=>hR k (r3 k hk)⟩
theorem RStepR.apart {w w':World} {v:Value} {N b:Nat} {ps:List Nat} {R R' T:Nat→Prop} (h:RStepR w v N b ps R) (hU:Upd T w w') (hT:∀k,R k→¬T k) (hR:∀k,R k→R' k):RStepR w' v N b ps R':=by
 obtain⟨A,l,c,B,m,d,C,n,e,h1,h2,h3,⟨ts,t1,t2,t3⟩,h5,h6,h7,r1,r2,r3⟩:=h
 exact⟨A,l,c,B,m,d,C,n,e,h1,RefV.apart h2 hU (fun k hk=>hT k (r1 k hk)),RefV.apart h3 hU (fun k hk=>hT k (r2 k hk)),⟨ts,t1,t2.upd hU (fun b o hb=>hT b (r3 b (by rw[hb];simp[inA]))),fun i hi=>⟨RefV.apart (t3 i hi).1 hU (fun k hk=>hT k ((t3 i hi).2 k hk)),fun k hk=>hR k ((t3 i hi).2 k hk)⟩⟩,h5,h6,h7,fun k hk=>hR k (r1 k hk),fun k hk=>hR k (r2 k hk),fun k hk=>hR k (r3 k hk)⟩
def Off (w:World) (B:Nat) (D F A:Option Addr):Prop:=∀k,inA A k→(B≤k∧k<w.heap.size)∧¬inA D k∧¬inA F k
structure Wk (w:World) (B g4 g5:Nat) (x4 y4 x5 y5:Value) (D F:Option Addr) (lD cD lF cF:Nat) (tb rb:List Tri) (ps qs:List Nat):Prop where
 t4:Three w g4 37 x4 y4 (.slice D lD cD)
 t5:Three w g5 43 x5 y5 (.slice F lF cF)
 s4:softV x4=true∧softV y4=true
 s5:softV x5=true∧softV y5=true
 oD:Own w B 33 D cD (tb.map svt)
 oF:Own w B 39 F cF (rb.map svt)
 ltb:tb.length=lD
 lrb:rb.length=lF
 lps:ps.length=lD
 lqs:qs.length=lF
 nt:∀i,i<lD→NatV w (.agg #[svt (gat tb i)]) (gat ps i)∧Off w B D F (gat tb i).1
 rt:∀i,i<lF→RefV w (svt (gat rb i)) (gat qs i)∧Off w B D F (gat rb i).1
theorem Off.ext {w w':World} {B:Nat} {D F A:Option Addr} {T:Nat→Prop} (h:Off w B D F A) (hu:Upd T w w'):Off w' B D F A:=fun k hk=>⟨⟨(h k hk).1.1,Nat.lt_of_lt_of_le (h k hk).1.2 hu.size⟩,(h k hk).2⟩
theorem Wk.ext {w w':World} {B g4 g5:Nat} {x4 y4 x5 y5:Value} {D F:Option Addr} {lD cD lF cF:Nat} {tb rb:List Tri} {ps qs:List Nat} (h:Wk w B g4 g5 x4 y4 x5 y5 D F lD cD lF cF tb rb ps qs) (hu:Ext w w'):Wk w' B g4 g5 x4 y4 x5 y5 D F lD cD lF cF tb rb ps qs:=
 ⟨h.t4.ext hu,h.t5.ext hu,h.s4,h.s5,h.oD.ext hu,h.oF.ext hu,h.ltb,h.lrb,h.lps,h.lqs,fun i hi=>⟨(h.nt i hi).1.ext hu,(h.nt i hi).2.ext hu⟩,fun i hi=>⟨(h.rt i hi).1.ext hu,(h.rt i hi).2.ext hu⟩⟩
theorem gat_snoc_left {α:Type} [Inhabited α] {xs:List α} {x:α} {i:Nat} (h:i<xs.length):gat (xs++[x]) i=gat xs i:=gat_append_left h
theorem gat_snoc_last {α:Type} [Inhabited α] {xs:List α} {x:α} {i:Nat} (h:i=xs.length):gat (xs++[x]) i=x:=by
 rw[gat_append_right (by omega),h,Nat.sub_self];rfl
theorem Wk.push4 {w w1 w3:World} {B g4 g5:Nat} {x4 y4 x5 y5:Value} {D F D2:Option Addr} {lD cD lF cF c2:Nat} {tb rb:List Tri} {ps qs:List Nat} {A:Option Addr} {l c p:Nat} (h:Wk w B g4 g5 x4 y4 x5 y5 D F lD cD lF cF tb rb ps qs) (hB:B≤w.heap.size)
 (hE:Ext w w1) (hV:NatV w1 (.agg #[.slice A l c]) p) (hA:∀k,inA A k→w.heap.size≤k∧k<w1.heap.size) (hO:Own w3 B 33 D2 c2 ((tb++[((A,l,c):Tri)]).map svt)) (hU:Upd (inA D) w1 w3) (hin:∀k,inA D2 k→inA D k∨k=w1.heap.size):
 Wk (w3.setCell ⟨g4,2,none⟩ (.slice D2 (lD+1) c2)) B g4 g5 x4 y4 x5 y5 D2 F (lD+1) c2 lF cF (tb++[((A,l,c):Tri)]) rb (ps++[p]) qs∧Upd (fun k=>k=g4∨B≤k) w (w3.setCell ⟨g4,2,none⟩ (.slice D2 (lD+1) c2)):=by
 have h1:=h.ext hE
 have n4:¬inA D g4:=own_three h1.oD h1.t4 (by decide)
 have n5:¬inA D g5:=own_three h1.oD h1.t5 (by decide)
 have t4:=h1.t4.upd hU n4
 have t5:=h1.t5.upd hU n5
 have oF:=h1.oF.upd hU (fun k hk=>own_apart h1.oF h1.oD (by decide) hk)
 have z4:∀b,only g4 b→Zw w3 b:=fun b hb=>by
   have:b=g4:=hb
   subst this
   exact t4.zw h.s4.1 h.s4.2 rfl
 have m4:¬inA D2 g4:=own_three hO t4 (by decide)
 have m4F:¬inA F g4:=own_three oF t4 (by decide)
 have n45:g5≠g4:=fun e=>by
   have a:=h.t4
   have b:=h.t5
   rw[e]at b
   unfold Three at a b
   rw[a]at b
   injection b with b
   injection b with _ b
   exact absurd b (by decide)
 have hU4:Upd (only g4) w3 (w3.setCell ⟨g4,2,none⟩ (.slice D2 (lD+1) c2)):=(Upd.refl _ _).setCell (T:=only g4) (p:=⟨g4,2,none⟩) (.inl rfl) _
 have sz:w1.heap.size≤w3.heap.size:=hU.size
 have off:∀A',Off w1 B D F A'→Off (w3.setCell ⟨g4,2,none⟩ (.slice D2 (lD+1) c2)) B D2 F A':=fun A' ho k hk=>by
   obtain⟨⟨o0,o1⟩,o2,o3⟩:=ho k hk
   exact⟨⟨o0,Nat.lt_of_lt_of_le o1 (Nat.le_trans sz hU4.size)⟩,fun hd=>(hin k hd).elim o2 (fun e=>by omega),o3⟩
 refine⟨⟨t4.set2 _,t5.far (p:=⟨g4,2,none⟩) n45 _,h.s4,h.s5,hO.upd hU4 (fun k hk e=>by have:k=g4:=e;subst this;exact m4 hk),oF.upd hU4 (fun k hk e=>by have:k=g4:=e;subst this;exact m4F hk),by rw[List.length_append,h.ltb];rfl,h.lrb,by rw[List.length_append,h.lps];rfl,h.lqs,fun i hi=>?_,fun i hi=>?_⟩,?_⟩
 · by_cases hlt:i<lD
   · rw[gat_snoc_left (by rw[h.ltb];exact hlt),gat_snoc_left (by rw[h.lps];exact hlt)]
     obtain⟨q1,q2⟩:=h1.nt i hlt
     exact⟨(NatV.apart q1 hU (fun k hk=>(q2 k hk).2.1)).changew hU4 z4,off _ q2⟩
   · have e:i=lD:=by omega
     rw[gat_snoc_last (by rw[h.ltb];exact e),gat_snoc_last (by rw[h.lps];exact e)]
     have hD:∀k,inA A k→¬inA D k:=fun k hk hd=>by
       have a:=(hA k hk).1
       have b:=(h.oD.in_ hd).2
       omega
     refine⟨(NatV.apart hV hU hD).changew hU4 z4,fun k hk=>⟨⟨Nat.le_trans hB (hA k hk).1,Nat.lt_of_lt_of_le (hA k hk).2 (Nat.le_trans sz hU4.size)⟩,fun hd=>(hin k hd).elim (hD k hk) (fun e=>by have:=(hA k hk).2;omega),fun hf=>?_⟩⟩
     have a:=(hA k hk).1
     have b:=(h.oF.in_ hf).2
     omega
 · obtain⟨q1,q2⟩:=h1.rt i hi
   exact⟨(RefV.apart q1 hU (fun k hk=>(q2 k hk).2.1)).changew hU4 z4,off _ q2⟩
 · refine Upd.setCell ?_ (p:=⟨g4,2,none⟩) (.inl (.inl rfl)) _
   exact(Upd.ofExt hE).trans' hU (fun i hi hd=>.inr (h1.oD.in_ hd).1) |>.mono (fun _ _ h=>h)
theorem Wk.push5 {w w1 w3:World} {B g4 g5:Nat} {x4 y4 x5 y5:Value} {D F F2:Option Addr} {lD cD lF cF c2:Nat} {tb rb:List Tri} {ps qs:List Nat} {A:Option Addr} {l c p:Nat} (h:Wk w B g4 g5 x4 y4 x5 y5 D F lD cD lF cF tb rb ps qs) (hB:B≤w.heap.size)
 (hE:Ext w w1) (hV:RefV w1 (.slice A l c) p) (hA:∀k,inA A k→w.heap.size≤k∧k<w1.heap.size) (hO:Own w3 B 39 F2 c2 ((rb++[((A,l,c):Tri)]).map svt)) (hU:Upd (inA F) w1 w3) (hin:∀k,inA F2 k→inA F k∨k=w1.heap.size):
 Wk (w3.setCell ⟨g5,2,none⟩ (.slice F2 (lF+1) c2)) B g4 g5 x4 y4 x5 y5 D F2 lD cD (lF+1) c2 tb (rb++[((A,l,c):Tri)]) ps (qs++[p])∧Upd (fun k=>k=g5∨B≤k) w (w3.setCell ⟨g5,2,none⟩ (.slice F2 (lF+1) c2)):=by
 have h1:=h.ext hE
 have n4:¬inA F g4:=own_three h1.oF h1.t4 (by decide)
 have n5:¬inA F g5:=own_three h1.oF h1.t5 (by decide)
 have t4:=h1.t4.upd hU n4
 have t5:=h1.t5.upd hU n5
 have oD:=h1.oD.upd hU (fun k hk=>own_apart h1.oD h1.oF (by decide) hk)
 have z5:∀b,only g5 b→Zw w3 b:=fun b hb=>by
   have:b=g5:=hb
   subst this
   exact t5.zw h.s5.1 h.s5.2 rfl
 have m5:¬inA F2 g5:=own_three hO t5 (by decide)
 have m5D:¬inA D g5:=own_three oD t5 (by decide)
 have n45:g4≠g5:=fun e=>by
   have a:=h.t4
   have b:=h.t5
   rw[←e]at b
   unfold Three at a b
   rw[a]at b
   injection b with b
   injection b with _ b
   exact absurd b (by decide)
 have hU4:Upd (only g5) w3 (w3.setCell ⟨g5,2,none⟩ (.slice F2 (lF+1) c2)):=(Upd.refl _ _).setCell (T:=only g5) (p:=⟨g5,2,none⟩) (.inl rfl) _
 have sz:w1.heap.size≤w3.heap.size:=hU.size
 have off:∀A',Off w1 B D F A'→Off (w3.setCell ⟨g5,2,none⟩ (.slice F2 (lF+1) c2)) B D F2 A':=fun A' ho k hk=>by
   obtain⟨⟨o0,o1⟩,o2,o3⟩:=ho k hk
   exact⟨⟨o0,Nat.lt_of_lt_of_le o1 (Nat.le_trans sz hU4.size)⟩,o2,fun hd=>(hin k hd).elim o3 (fun e=>by omega)⟩
 refine⟨⟨t4.far (p:=⟨g5,2,none⟩) n45 _,t5.set2 _,h.s4,h.s5,oD.upd hU4 (fun k hk e=>by have:k=g5:=e;subst this;exact m5D hk),hO.upd hU4 (fun k hk e=>by have:k=g5:=e;subst this;exact m5 hk),h.ltb,by rw[List.length_append,h.lrb];rfl,h.lps,by rw[List.length_append,h.lqs];rfl,fun i hi=>?_,fun i hi=>?_⟩,?_⟩
 · obtain⟨q1,q2⟩:=h1.nt i hi
   exact⟨(NatV.apart q1 hU (fun k hk=>(q2 k hk).2.2)).changew hU4 z5,off _ q2⟩
 · by_cases hlt:i<lF
   · rw[gat_snoc_left (by rw[h.lrb];exact hlt),gat_snoc_left (by rw[h.lqs];exact hlt)]
     obtain⟨q1,q2⟩:=h1.rt i hlt
     exact⟨(RefV.apart q1 hU (fun k hk=>(q2 k hk).2.2)).changew hU4 z5,off _ q2⟩
   · have e:i=lF:=by omega
     rw[gat_snoc_last (by rw[h.lrb];exact e),gat_snoc_last (by rw[h.lqs];exact e)]
     have hF:∀k,inA A k→¬inA F k:=fun k hk hd=>by
       have a:=(hA k hk).1
       have b:=(h.oF.in_ hd).2
       omega
     refine⟨(RefV.apart hV hU hF).changew hU4 z5,fun k hk=>⟨⟨Nat.le_trans hB (hA k hk).1,Nat.lt_of_lt_of_le (hA k hk).2 (Nat.le_trans sz hU4.size)⟩,fun hd=>?_,fun hd=>(hin k hd).elim (hF k hk) (fun e=>by have:=(hA k hk).2;omega)⟩⟩
     have a:=(hA k hk).1
     have b:=(h.oD.in_ hd).2
     omega
 · refine Upd.setCell ?_ (p:=⟨g5,2,none⟩) (.inl (.inl rfl)) _
   exact(Upd.ofExt hE).trans' hU (fun i hi hd=>.inr (h1.oF.in_ hd).1) |>.mono (fun _ _ h=>h)
end Go.Proofs.Ytbhhjfhepkbfgaa
