/- Ranges over functions, none of whose rounds leaves the loop: the round's frame is found by the walk. A drawn region in a round, by a tree. -/
import Derived.Test.YtbhhjfhepkbfgaaLbNatY
namespace Go.Proofs.Ytbhhjfhepkbfgaa
set_option linter.unusedSimpArgs false
set_option linter.unusedVariables false
open Go.RowKit
section
variable {P : Program}
theorem wpIn_region_tree {id ln n1:Nat} {Q:Exit→Act→World→Prop} {a:Act} {w:World} {l:List Oper} (S:World→Prop) (n:Nat) (t:Tr) (hm:P.follows .mixedOrders=true)
 (hB:treeOk .any l.toArray n t=true) (hD:noDefer l=true) (hC:S w.drew)
 (h:Nonempty (Wd S)→wpTree P l.toArray (fun a' w'=>wpList P l.toArray (Exit.then (fun a w=>Q .normal a w) noQ) (l.drop n) a' w') t (Cls S) a w.drew):(Code.region id l.toArray true).wpIn (Fence.wide.inRound ln) n1 P Q a w:=by
 simp only[treeOk,Bool.and_eq_true,decide_eq_true_eq]at hB
 obtain⟨⟨⟨⟨hsel,hn⟩,hs⟩,hc⟩,hlex⟩:=hB
 have hdl:(l.drop n).length=l.toArray.size - n:=by simp
 have inv0:HeadInv .any l.toArray n (Array.replicate l.toArray.size false):=
  ⟨by simp,fun j oj _ hl=>(by rw[getD_replicate_false]at hl;cases hl),fun t _ ht=>getD_in (by simpa using ht) (getD_replicate_false _ _)⟩
 have H:=wpAnyC_tree (md:=.any) (g:=l.toArray.size - n) hsel hs hc hn n t (Cls S) _ a w.drew ⟨⟨_,hC⟩,rfl⟩ inv0 hlex (h ⟨⟨_,hC⟩⟩)
 refine wpIn_region_any hm ?_
 have:=wpAny_of_C (Q':=Exit.then (fun a w=>Q .normal a w) noQ) (g:=l.toArray.size - n) (fun listed a' w' hL=>by
   have:=wpAny_of_seq (md:=.any) (Q':=Exit.then (fun a w=>Q .normal a w) noQ) (l.drop n) n listed a' w' (fun j=>by simp[List.getElem?_drop]) (by rw[hdl];exact hL.1) hL.2
   rwa [hdl]at this) _ _ _ _ _ H
 rw[show n+(l.toArray.size - n)=l.toArray.size by omega]at this
 exact wpAnyIn_of_wpAny (noDefer_spec hD) (fun _ _ h=>h) _ _ _ _ this
theorem wp_range {α:Type} {g:Operand} {ps:Array Tmp} {assign body:Code} {Q:Exit→Act→World→Prop} {a:Act} {w:World} {gf:Nat} {lb:Array Value} (encs:α→Array Value) (R:Nat→Prop) (N:Nat) (S:List α→Prop)
 (hg:a.eval g=.func (.func gf) #[] lb) (eg:∀args w,(callFunc gf args).run P w=.ok (.enter gf args) w)
 (hseq:SeqStopsK Fence.wide 2 P gf lb encs (Kept R) S (fun _=>True) N w) (hR:∀i,R i→i<w.heap.size) (hps:∀x,(encs x).size=ps.size)
 (I:List α→World→Prop) (hI:OwnFrom w.heap.size I) (h0:I [] w)
 (h:∃a₁:α→Act,
  (∀(l:Nat) (x:α) (W:World) (K:Act→World→Prop),K (a₁ x) W→
   assign.wpIn (Fence.wide.inRound l) 1 P (Exit.then K (fun _ _ _=>False)) {tmps:=(ps.zip (encs x)).foldl (fun t (p,v)=>t.setIfInBounds p v) a.tmps,defers:=[]} W)∧
  (∀(l:Nat) (pre:List α) (x:α) (W:World),I pre W→pre.length<N→body.wpIn (Fence.wide.inRound l) 1 P (ownPostG w.heap.size (Kept R) I (fun _ _ _=>False) (pre++[x]) W) (a₁ x) W))
 (hdone:∀(D:Nat) (xs:List α) (W:World),w.heap.size≤D→S xs→I xs W→W.heap[D]? =some (.deferred (some []))→Q .normal {a with defers:={target:=.collected D,args:=#[]} :: a.defers} W):
 (Code.rangeFunc g ps assign body).wp P Q a w:=by
 obtain⟨a₁,h1,h2⟩:=h
 refine(wpIn_wide (n:=3)).1 ?_
 exact wpIn_rangeFunc_ownG rfl (by omega) hg trivial eg hseq Kept.t (Kept.b hR) (Below.refl _ _) hps I (fun _ _ _=>False) hI (fun _ _ _ _ _ hs _ _=>hs) h0 a₁ h1 h2 hdone (fun _ _ _ _ _ _ h _=>h.elim)
end
end Go.Proofs.Ytbhhjfhepkbfgaa
