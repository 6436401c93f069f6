/- What stays known of a value while nothing old turns: rows of bytes, rows of rows. -/
import Derived.Test.YtdohmikoafkniaaGreatLwShas
set_option maxRecDepth 100000
set_option maxHeartbeats 8000000
namespace Go.Proofs.YtdohmikoafkniaaGreat
set_option linter.unusedSimpArgs false
set_option linter.unusedVariables false
structure MF where
 p:Value→World→Prop
 mono:∀v w w',p v w→Ext w w'→p v w'
def monoB (ops:Array Oper) (n:Nat):Bool:=
 Region.noSelect ops && decide (n<ops.size) && Region.sinkB .any ops n && Region.chainB .any ops n && ordB ops n && dstB ops n && Region.seqB .any ops (ops.size - n) n (doneA n ops.size)
def KnownM (w0:World) (n:Nat) (J:Nat→MF) (listed:Array Bool) (u:Nat→Value) (w:World):Prop:=
 Ext w0 w∧∀i,i<n→listed.getD i true=true→(J i).p (u i) w
def OpM (P:Program) (ops:Array Oper) (a0:Act) (w0:World) (n:Nat) (J:Nat→MF) (i:Nat):Prop:=
 ∀ (u:Nat→Value) (w:World) (o:Oper),ops[i]? =some o→Ext w0 w→(∀d,d<n→waitsOn ops i d=true→(J d).p (u d) w)→
   wpList P ops (Exit.then (fun a' w'=>∃v,a'=(fr ops a0 u n).put o.dst v∧Ext w w'∧(J i).p v w') noQ) [o] (fr ops a0 u n) w
section law
variable {P : Program} {ops : Array Oper} {a0 : Act} {w0 : World} {n : Nat} {J : Nat → MF}
theorem mono_run {Lq:Act→World→Prop} (hB:monoB ops n=true) (hop:∀i,i<n→OpM P ops a0 w0 n J i)
 (hL:∀u w,KnownM w0 n J (doneA n ops.size) u w→Lq (fr ops a0 u n) w):
 ∀ (f:Nat) (listed:Array Bool) (u:Nat→Value) (w:World),HeadInv .any ops n listed→cnt listed n=f→KnownM w0 n J listed u w→
   wpAnyC P .any ops n (fun listed' a' w'=>Region.seqB .any ops (ops.size - n) n listed'=true∧Lq a' w') f (fun _=>True) listed (fr ops a0 u n) w:=by
 simp only[monoB,Bool.and_eq_true,decide_eq_true_eq]at hB
 obtain⟨⟨⟨⟨⟨⟨hsel,hn⟩,hs⟩,hc⟩,hord⟩,hdst⟩,hseq⟩:=hB
 have hdist:∀i j,i<n→j<n→i≠j→∀x,dstOf ops i=some x→dstOf ops j≠some x:=fun i j hi hj hne x hx=>by
   have h1:=List.all_eq_true.1 (List.all_eq_true.1 hdst i (List.mem_range.2 hi)) j (List.mem_range.2 hj)
   simp only[hx,Bool.or_eq_true,decide_eq_true_eq]at h1
   rcases h1 with h1 | h1
   · exact absurd h1 hne
   · exact h1
 intro f
 induction f with
 | zero=>
   intro listed u w inv hcnt hK
   have hall:=cnt_zero hcnt
   have he:listed=doneA n ops.size:=by
    apply Array.ext
    · simp[doneA,inv.size];omega
    · intro i h1 h2
      have hi:i<ops.size:=by rw[←inv.size];exact h1
      by_cases hin:i<n
      · have:=hall i hin
        simp[h1]at this
        rw[this]
        simp[doneA,hin]
      · have:=inv.tail i (by omega) hi
        simp[h1]at this
        rw[this]
        simp[doneA,Array.getElem_append,hin]
   subst he
   exact⟨hseq,hL u w hK⟩
 | succ f ih=>
   intro listed u w inv hcnt hK
   obtain⟨i0,hi0,hun0,hbelow⟩:=cnt_pos (listed:=listed) (k:=n) (by omega)
   have hlt:∀i,i<n→i<listed.size:=fun i hi=>by rw[inv.size];omega
   have hboth:∀j,j<n→listed.getD j true=true→listed.getD j false=true:=fun j hj h=>by simpa[hlt j hj] using h
   have hr0:i0∈Region.ready .any ops listed:=by
    refine mem_ready.2 ⟨hun0,?_⟩
    have h1:=List.all_eq_true.1 hord i0 (List.mem_range.2 hi0)
    cases ho:ops[i0]? with
    | none=>simp[ho]at h1
    | some o=>
      refine⟨o,rfl,fun e he hb=>?_⟩
      simp only[ho]at h1
      have h2:=Array.all_eq_true'.1 h1 e he
      simp only[hb,Bool.not_true,Bool.false_or,decide_eq_true_eq]at h2
      exact hboth _ (by omega) (hbelow e.on h2)
   refine⟨(fun h=>by rw[h]at hr0;cases hr0),fun i hi=>?_⟩
   have hin:i<n:=by
    rcases Nat.lt_or_ge i n with h | h
    · exact h
    · exact absurd hi (tail_waits hs hc hn inv _ i0 rfl hi0 hun0 i h)
   refine⟨hin,?_⟩
   obtain⟨hun,o,ho,hall⟩:=mem_ready.1 hi
   obtain⟨hE,hJ⟩:=hK
   have hstep:=hop i hin u w o ho hE (fun d hdn hw=>by
     obtain⟨oj,hoj,e,he,hb,hon⟩:=Region.waitsFor_spec hw
     have:oj=o:=Option.some.inj (hoj.symm.trans ho)
     subst this
     have hl:=hall e he hb
     rw[hon]at hl
     exact hJ d hdn (by simpa[hlt d hdn] using hl))
   refine cOp_mono (fun a' w' h=>?_) (cOp_of_list ho hstep)
   obtain⟨v,rfl,hU,hv⟩:=h
   refine⟨fun _=>True,fun _ _=>trivial,trivial,?_⟩
   have hd':o.dst=dstOf ops i:=by simp[dstOf,ho]
   rw[hd',fr_put hdist hin]
   refine ih _ _ _ (inv.set hi hin) ?_ ⟨hE.trans hU,fun j hj hl=>?_⟩
   · have:=cnt_set (hlt i hin) hun hin
     omega
   · by_cases hji:j=i
     · subst hji;rw[updf_same];exact hv
     · rw[getD_set_ne true (Ne.symm hji)]at hl
       rw[updf_ne u v hji]
       exact(J j).mono _ _ _ (hJ j hj hl) hU
theorem wp_region_mono {id:Nat} {Q:Exit→Act→World→Prop} {w:World} {l:List Oper} (n:Nat) (J:Nat→MF) (hm:P.follows .mixedOrders=true)
 (hB:monoB l.toArray n=true) (hop:∀i,i<n→OpM P l.toArray a0 w.drew n J i)
 (hL:∀u w',Ext w.drew w'→(∀i,i<n→(J i).p (u i) w')→wpList P l.toArray Q (l.drop n) (fr l.toArray a0 u n) w'):(Code.region id l.toArray true).wp P Q a0 w:=by
 have hB':=hB
 simp only[monoB,Bool.and_eq_true,decide_eq_true_eq]at hB'
 obtain⟨⟨⟨⟨⟨⟨hsel,hn⟩,hs⟩,hc⟩,hord⟩,hdst⟩,hseq⟩:=hB'
 have hn2:n<l.length:=by simpa using hn
 have hdl:(l.drop n).length=l.toArray.size - n:=by simp
 have inv0:HeadInv .any l.toArray n (Array.replicate l.toArray.size false):=
  ⟨by simp,fun j oj _ hl=>(by rw[getD_replicate_false]at hl;cases hl),fun t _ ht=>getD_in (by simpa using ht) (getD_replicate_false _ _)⟩
 obtain⟨u0,hu0⟩:=fr_self (ops:=l.toArray) (a0:=a0) n
 have H:=mono_run (P:=P) (a0:=a0) (Lq:=fun a' w'=>wpList P l.toArray Q (l.drop n) a' w') hB hop (fun u w' ⟨hE,hJ⟩=>hL u w' hE (fun i hi=>hJ i hi (doneA_at hi))) n _ u0 w.drew inv0 (cnt_new _ _ (by omega)) ⟨uR_,(fun i hi hl=>by
       have:(Array.replicate l.toArray.size false).getD i true=false:=by
        have:i<l.length:=by omega
        simp[this]
       rw[this]at hl;cases hl)⟩
 rw[hu0]at H
 refine wp_region_any hm ?_
 have:=wpAny_of_C (Q':=Q) (g:=l.toArray.size - n) (fun listed a' w' hL=>by
   have:=wpAny_of_seq (md:=.any) (Q':=Q) (l.drop n) n listed a' w' (fun j=>by simp[List.getElem?_drop]) (by rw[hdl];exact hL.1) hL.2
   rwa [hdl]at this) _ _ _ _ _ H
 rw[show n+(l.toArray.size - n)=l.toArray.size by omega]at this
 exact this
end law
end Go.Proofs.YtdohmikoafkniaaGreat
namespace Go.Proofs.YtdohmikoafkniaaGreat
open Go.RowKit
open Sha
@[reducible] def MF.eq (x : Value) : MF := ⟨fun v _ => v = x, fun _ _ _ h _ => h⟩
theorem Own.pt {w:World} {B:Nat} {e:TypeId} {A:Option Addr} {c n:Nat} {bs:List (BitVec 8)} (h:Own w B e A c (bs.map by8)) (hn:bs.length=n):bs.length=n∧n≤c∧c≤maxLen∧Sl by8 w A bs:=by
 have hc:=h.cap
 rw[List.length_map,hn]at hc
 exact⟨hn,hc.1,hc.2,h.sl⟩
end Go.Proofs.YtdohmikoafkniaaGreat
