/- Claims as a chain, walked: chain. -/
import Derived.Test.YtbhhjfhepkbfgaaGnCertI
namespace Go.Proofs.Ytbhhjfhepkbfgaa
set_option linter.unusedSimpArgs false
set_option linter.unusedVariables false
open Go.RowKit
open Nt Pk
attribute [local go_sem] steady steadyUpon Cls same_cell
attribute [local irreducible] wpHead wpTree
theorem Try.n_elS :ElemK Try.prog 26 37 (.agg #[.slice none 0 0,.slice none 0 0,.slice none 0 0]) 3 72:=⟨by kernel_rfl,by kernel_rfl,rfl,by decide⟩
theorem Try.n_elT :ElemK Try.prog 27 43 (.agg #[.slice none 0 0,.slice none 0 0,.slice none 0 0]) 3 72:=⟨by kernel_rfl,by kernel_rfl,rfl,by decide⟩
theorem v3_one (m:Tr3):∀u∈v3 m,u.oneCell'=true:=fun u hu=>by
  unfold v3 at hu
  simp at hu
  rcases hu with rfl | rfl | rfl<;>rfl
theorem Three.news {w:World} {g:Nat} {t:TypeId} {m:Tr3} (h:Three w g t (svt m.1) (svt m.2.1) (svt m.2.2)):∀(j:Nat) (u:Value),(v3 m)[j]? =some u→w.cell? ((⟨g,0,none⟩:Addr).add j)=some u:=fun j u hu=>by
  rw[Addr.add_lit,Nat.zero_add]
  match j,hu with
  | 0,hu=>simp[v3]at hu;rw[←hu];exact h.cell0
  | 1,hu=>simp[v3]at hu;rw[←hu];exact h.cell1
  | 2,hu=>simp[v3]at hu;rw[←hu];exact h.cell2
  | k+3,hu=>simp[v3]at hu
theorem ownK_apart {w:World} {B B' sz sz' n n':Nat} {e e':TypeId} {A A':Option Addr} {c c':Nat} {xs xs':List Value} (h:OwnK w B e sz A n c xs) (h':OwnK w B' e' sz' A' n' c' xs') (hne:e≠e') {k:Nat} (hk:inA A k):¬inA A' k:=fun hk'=>by
  rcases h.2 with ⟨h0,_⟩ | ⟨g,cap,cur,hv,hb,hg,_⟩
  · injection h0 with h0;subst h0;simp[inA]at hk
  · rcases h'.2 with ⟨h0,_⟩ | ⟨g',cap',cur',hv',hb',hg',_⟩
    · injection h0 with h0;subst h0;simp[inA]at hk'
    · injection hv with hA;injection hv' with hA'
      subst hA;subst hA'
      simp[inA]at hk hk'
      subst hk;subst hk'
      rw[hg]at hg'
      injection hg' with hg'
      injection hg' with _ he
      exact hne he
def Rf (w:World) (D F:Option Addr):Nat→Prop:=fun k=>k<w.heap.size∧¬inA D k∧¬inA F k
def m3 (m:Tr3):Value:=.agg #[svt m.1,svt m.2.1,svt m.2.2]
structure Ck (w:World) (B:Nat) (D F:Option Addr) (la cD lb cF:Nat) (ms rs:List Tr3) (ss ts:List St):Prop where
 oD:OwnK w B 37 3 D la cD (flat3 ms)
 oF:OwnK w B 43 3 F lb cF (flat3 rs)
 lm:ms.length=la
 lr:rs.length=lb
 ls:ss.length=la
 lt:ts.length=lb
 st:∀i,i<la→StepR w (m3 (gat ms i)) (gat ss i).N (gat ss i).b (gat ss i).ps (Rf w D F)
 rt:∀i,i<lb→RStepR w (m3 (gat rs i)) (gat ts i).N (gat ts i).b (gat ts i).ps (Rf w D F)
theorem Ck.ext {w w':World} {B:Nat} {D F:Option Addr} {la cD lb cF:Nat} {ms rs:List Tr3} {ss ts:List St} (h:Ck w B D F la cD lb cF ms rs ss ts) (hu:Ext w w'):Ck w' B D F la cD lb cF ms rs ss ts:=
 ⟨h.oD.ext hu,h.oF.ext hu,h.lm,h.lr,h.ls,h.lt,fun i hi=>(h.st i hi).apart hu (fun _ _ h=>h) (fun k hk=>⟨Nat.lt_of_lt_of_le hk.1 hu.size,hk.2⟩),fun i hi=>(h.rt i hi).apart hu (fun _ _ h=>h) (fun k hk=>⟨Nat.lt_of_lt_of_le hk.1 hu.size,hk.2⟩)⟩
theorem Ck.pushD {w w3:World} {B:Nat} {D F D2:Option Addr} {la cD lb cF c2:Nat} {ms rs:List Tr3} {ss ts:List St} {m:Tr3} {s:St} (h:Ck w B D F la cD lb cF ms rs ss ts) (hs:StepR w (m3 m) s.N s.b s.ps (Rf w D F)) (hO:OwnK w3 B 37 3 D2 (la+1) c2 (flat3 ms++v3 m)) (hU:Upd (inA D) w w3) (hin:∀k,inA D2 k→inA D k∨k=w.heap.size):
 Ck w3 B D2 F (la+1) c2 lb cF (ms++[m]) rs (ss++[s]) ts:=by
 have sz:=hU.size
 have hT:∀k,Rf w D F k→¬inA D k:=fun k hk=>hk.2.1
 have hR:∀k,Rf w D F k→Rf w3 D2 F k:=fun k hk=>⟨Nat.lt_of_lt_of_le hk.1 sz,fun hd=>(hin k hd).elim hk.2.1 (fun e=>by have:=hk.1;omega),hk.2.2⟩
 refine⟨by rw[flat3_snoc];exact hO,h.oF.upd hU (fun k hk=>ownK_apart h.oF h.oD (by decide) hk),by rw[List.length_append,h.lm];rfl,h.lr,by rw[List.length_append,h.ls];rfl,h.lt,fun i hi=>?_,fun i hi=>(h.rt i hi).apart hU hT hR⟩
 by_cases hlt:i<la
 · rw[gat_snoc_left (by rw[h.lm];exact hlt),gat_snoc_left (by rw[h.ls];exact hlt)]
   exact(h.st i hlt).apart hU hT hR
 · rw[gat_snoc_last (by rw[h.lm];omega),gat_snoc_last (by rw[h.ls];omega)]
   exact hs.apart hU hT hR
theorem Ck.pushF {w w3:World} {B:Nat} {D F F2:Option Addr} {la cD lb cF c2:Nat} {ms rs:List Tr3} {ss ts:List St} {m:Tr3} {s:St} (h:Ck w B D F la cD lb cF ms rs ss ts) (hs:RStepR w (m3 m) s.N s.b s.ps (Rf w D F)) (hO:OwnK w3 B 43 3 F2 (lb+1) c2 (flat3 rs++v3 m)) (hU:Upd (inA F) w w3) (hin:∀k,inA F2 k→inA F k∨k=w.heap.size):
 Ck w3 B D F2 la cD (lb+1) c2 ms (rs++[m]) ss (ts++[s]):=by
 have sz:=hU.size
 have hT:∀k,Rf w D F k→¬inA F k:=fun k hk=>hk.2.2
 have hR:∀k,Rf w D F k→Rf w3 D F2 k:=fun k hk=>⟨Nat.lt_of_lt_of_le hk.1 sz,hk.2.1,fun hd=>(hin k hd).elim hk.2.2 (fun e=>by have:=hk.1;omega)⟩
 refine⟨h.oD.upd hU (fun k hk=>ownK_apart h.oD h.oF (by decide) hk),by rw[flat3_snoc];exact hO,h.lm,by rw[List.length_append,h.lr];rfl,h.ls,by rw[List.length_append,h.lt];rfl,fun i hi=>(h.st i hi).apart hU hT hR,fun i hi=>?_⟩
 by_cases hlt:i<lb
 · rw[gat_snoc_left (by rw[h.lr];exact hlt),gat_snoc_left (by rw[h.lt];exact hlt)]
   exact(h.rt i hlt).apart hU hT hR
 · rw[gat_snoc_last (by rw[h.lr];omega),gat_snoc_last (by rw[h.lt];omega)]
   exact hs.apart hU hT hR
def RStepL (w:World) (A:Option Addr) (ss:List St):Prop:=∀i,i<ss.length→∃b o A1 l1 c1 A2 l2 c2 A3 n3 c3,A=some ⟨b,o,none⟩∧
 w.cell? ⟨b,o+i*3,none⟩=some (.slice A1 l1 c1)∧w.cell? ⟨b,o+i*3+1,none⟩=some (.slice A2 l2 c2)∧w.cell? ⟨b,o+i*3+2,none⟩=some (.slice A3 n3 c3)∧
 RefV w (.slice A1 l1 c1) (gat ss i).N∧RefV w (.slice A2 l2 c2) (gat ss i).b∧RefL w A3 (gat ss i).ps∧(gat ss i).ps.length=n3∧n3≤c3∧c3≤maxLen
theorem RStepL.ext {w w':World} {A:Option Addr} {ss:List St} (h:RStepL w A ss) (hu:Ext w w'):RStepL w' A ss:=fun i hi=>by
  obtain⟨b,o,A1,l1,c1,A2,l2,c2,A3,n3,c3,h0,h1,h2,h3,h4,h5,h6,h7⟩:=h i hi
  exact⟨b,o,A1,l1,c1,A2,l2,c2,A3,n3,c3,h0,hu.cellv h1,hu.cellv h2,hu.cellv h3,h4.ext hu,h5.ext hu,h6.ext hu,h7⟩
theorem Ck.steps {w:World} {B:Nat} {D F:Option Addr} {la cD lb cF:Nat} {ms rs:List Tr3} {ss ts:List St} (h:Ck w B D F la cD lb cF ms rs ss ts):StepL w D ss∧RStepL w F ts:=by
 refine⟨fun i hi=>?_,fun i hi=>?_⟩
 · rw[h.ls]at hi
   obtain⟨g,rfl, -, -,hc⟩:=h.oD.open_ (by omega)
   obtain⟨f0,f1,f2⟩:=flat3_at ms i (by rw[h.lm];exact hi)
   have hl:=flat3_length ms
   rw[h.lm]at hl
   obtain⟨A1,l1,c1,A2,l2,c2,A3,n3,c3,e,g1,g2,g3,g4,g5,g6⟩:=(h.st i hi).step
   unfold m3 at e
   injection e with e
   simp at e
   obtain⟨e1,e2,e3⟩:=e
   refine⟨g,0,A1,l1,c1,A2,l2,c2,A3,n3,c3,rfl,?_,?_,?_,g1,g2,g3,g4,g5,g6⟩
   · rw[Nat.zero_add,hc _ (by omega),f0,e1]
   · rw[Nat.zero_add,hc _ (by omega),f1,e2]
   · rw[Nat.zero_add,hc _ (by omega),f2,e3]
 · rw[h.lt]at hi
   obtain⟨g,rfl, -, -,hc⟩:=h.oF.open_ (by omega)
   obtain⟨f0,f1,f2⟩:=flat3_at rs i (by rw[h.lr];exact hi)
   have hl:=flat3_length rs
   rw[h.lr]at hl
   obtain⟨A1,l1,c1,A2,l2,c2,A3,n3,c3,e,g1,g2,g3,g4,g5,g6⟩:=(h.rt i hi).step
   unfold m3 at e
   injection e with e
   simp at e
   obtain⟨e1,e2,e3⟩:=e
   refine⟨g,0,A1,l1,c1,A2,l2,c2,A3,n3,c3,rfl,?_,?_,?_,g1,g2,g3,g4,g5,g6⟩
   · rw[Nat.zero_add,hc _ (by omega),f0,e1]
   · rw[Nat.zero_add,hc _ (by omega),f1,e2]
   · rw[Nat.zero_add,hc _ (by omega),f2,e3]
theorem Ck.nil {w:World} {B:Nat}:Ck w B none none 0 0 0 0 [] [] [] []:=
 ⟨OwnK.nil,OwnK.nil,rfl,rfl,rfl,rfl,fun i hi=>absurd hi (by omega),fun i hi=>absurd hi (by omega)⟩
end Go.Proofs.Ytbhhjfhepkbfgaa
