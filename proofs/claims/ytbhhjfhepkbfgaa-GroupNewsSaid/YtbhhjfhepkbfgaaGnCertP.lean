/- A chain that stands proves its number a prime: the plain law. -/
import Derived.Test.YtbhhjfhepkbfgaaGnCertG
namespace Go.Proofs.Ytbhhjfhepkbfgaa
set_option linter.unusedSimpArgs false
set_option linter.unusedVariables false
open Go.RowKit
open Nt Pk
theorem hasB_mem {ns:List Nat} {n:Nat}:hasB ns n=true↔n∈ns:=by
 unfold hasB
 rw[List.any_eq_true]
 exact⟨fun ⟨x,hx,e⟩=>by simp at e;exact e▸hx,fun h=>⟨n,h,by simp⟩⟩
theorem once_of :∀{ps:List Nat},(∀i,i<ps.length→gat ps i ∉ ps.take i)→once ps
 | [],_=>trivial
 | x :: l,h=>⟨fun hx=>by
     obtain⟨i,hi,e⟩:=List.getElem_of_mem hx
     refine h (i+1) (by simpa using hi) ?_
     have:gat (x :: l) (i+1)=x:=by rw[gat_lt (by simpa using hi)];simpa using e
     rw[this]
     simp,once_of fun i hi hm=>h (i+1) (by simpa using hi) (by
     have:gat (x :: l) (i+1)=gat l i:=by rw[gat_lt (by simpa using hi),gat_lt hi];rfl
     rw[this,List.take_succ_cons]
     exact List.mem_cons_of_mem _ hm)⟩
theorem holds_pr {N b:Nat} {ps bs:List Nat} (hb:∀x,x∈bs→Pr x) (h:holdsB N b ps bs=true):Pr N:=by
 unfold holdsB at h
 simp only[Bool.and_eq_true,decide_eq_true_iff,List.all_eq_true,List.mem_range]at h
 obtain⟨h2, -,h1,hk,hF⟩:=h
 have hok:∀i,i<ps.length→gat ps i ∉ ps.take i∧Pr (gat ps i)∧(N - 1) % gat ps i=0∧Nat.gcd (subm (b^((N - 1) / gat ps i) % N) 1 N) N=1:=fun i hi=>by
   have:=hk i hi
   unfold okP at this
   simp only[Bool.and_eq_true,decide_eq_true_iff,Bool.not_eq_true']at this
   obtain⟨g1,g2,g3,g4,g5⟩:=this
   refine⟨fun hm=>by rw[hasB_mem.2 hm]at g1;exact absurd g1 (by decide),?_,g4,g5⟩
   unfold knownB at g2
   rw[Bool.or_eq_true]at g2
   exact g2.elim (fun h=>hb _ (hasB_mem.1 h)) smallB_pr
 have hmem:∀p,p∈ps→∃i,i<ps.length∧gat ps i=p:=fun p hp=>by
   obtain⟨i,hi,e⟩:=List.getElem_of_mem hp
   exact⟨i,hi,by rw[gat_lt hi];exact e⟩
 refine pock h2 (fun p hp=>?_) (once_of fun i hi=>(hok i hi).1) h1 (fun p hp=>?_) hF
 · obtain⟨i,hi,rfl⟩:=hmem p hp
   exact(hok i hi).2.1
 · obtain⟨i,hi,rfl⟩:=hmem p hp
   refine⟨(hok i hi).2.2.1,?_⟩
   have:=(hok i hi).2.2.2
   have e:subm (b^((N - 1) / gat ps i) % N) 1 N=(b^((N - 1) / gat ps i) % N+N - 1) % N:=by
    unfold subm
    rw[Nat.mod_mod,Nat.mod_eq_of_lt (show 1<N by omega)]
   rw[e]at this
   exact this
theorem holdAll_pr :∀{ss:List St} {bs:List Nat},(∀x,x∈bs→Pr x)→holdAll bs ss=true→∀s,s∈ss→Pr s.N
 | [],_,_,_,s,hs=>absurd hs (by simp)
 | t :: r,bs,hb,h,s,hs=>by
   unfold holdAll at h
   rw[Bool.and_eq_true]at h
   have ht:=holds_pr hb h.1
   rcases List.mem_cons.1 hs with rfl | hs
   · exact ht
   · exact holdAll_pr (fun x hx=>by
       rcases List.mem_append.1 hx with hx | hx
       · exact hb x hx
       · rw[List.mem_singleton.1 hx];exact ht) h.2 s hs
theorem primeB_pr {n:Nat} {ss:List St} (h:primeB n ss=true):Pr n:=by
 unfold primeB at h
 rw[Bool.or_eq_true,Bool.and_eq_true,decide_eq_true_iff,List.any_eq_true]at h
 rcases h with h | ⟨h,s,hs,e⟩
 · exact smallB_pr h
 · have e2:s.N=n:=by simpa using e
   rw[←e2]
   refine holdAll_pr (bs:=[]) (fun x hx=>absurd hx (by simp)) ?_ s hs
   unfold checkE at h
   split at h
   · exact absurd h (by decide)
   · split at h
     · assumption
     · exact absurd h (by decide)
end Go.Proofs.Ytbhhjfhepkbfgaa
