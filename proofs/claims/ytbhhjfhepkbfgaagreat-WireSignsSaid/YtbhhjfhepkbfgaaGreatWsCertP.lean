/- A chain that stands proves its number a prime: the plain law. -/
import Derived.Test.YtbhhjfhepkbfgaaGreatWsShar
import Derived.Test.YtbhhjfhepkbfgaaGreatWsCertG
namespace Go.Proofs.YtbhhjfhepkbfgaaGreat
set_option linter.unusedSimpArgs false
set_option linter.unusedVariables false
open Go.RowKit
open Sha
open Mac
attribute [local go_sem] steady steadyUpon Cls same_cell by8 by32
attribute [local go_sem] xor_u8
theorem derive_any (A:Option Addr) (n c:Nat) (salt:List (BitVec 8)) (D:Option Addr) (m d:Nat) (sec:List (BitVec 8)) (F:Option Addr) (l f:Nat) (info:List (BitVec 8)) (N:Nat) (w:World)
 (hS:Sl by8 w A salt) (hn:salt.length=n) (hc:n≤c) (hm:c≤maxLen) (hl:n≤10000000)
 (hS':Sl by8 w D sec) (hn':sec.length=m) (hd:m≤d) (hd':d≤maxLen) (hl':m≤10000000)
 (hS2:Sl by8 w F info) (hn2:info.length=l) (hd2:l≤f) (hd2':f≤maxLen) (hl2:l≤1000000) (hN:N≤8160):
 Calls Tryz.prog 64 #[.slice A n c,.slice D m d,.slice F l f,.int .i64 N] w (MRetE w N (expand (tag salt sec) info N)):=by
 have HS2:=hide hS2
 have Hn2:=hide hn2
 have Hd2':=hide hd2'
 clear hS2 hn2 hd2'
 have hex:=extract_any A n c salt D m d sec w hS hn hc hm hl hS' hn' hd hd' hl'
 have Hex:=hide hex
 clear hex hS hn hm hS' hn' hd'
 go_enter Tryz.func64,Tryz.ntmps64
 go_wp2_with fail
 refine Hex.out.mono ?_
 rintro e w1 ⟨A1,c1,rfl,hO1,hU1⟩
 have hp:=hO1.mpt (tag_length _ _)
 have Hp:=hide hp
 clear hp hO1 Hex
 go_wp2_with fail
 refine(expand_any A1 32 c1 (tag salt sec) F l f info N w1 Hp.out.1 (tag_length _ _) Hp.out.2.2.1 Hp.out.2.2.2 (by omega) (HS2.out.ext hU1) Hn2.out hd2 Hd2'.out hl2 hN).mono ?_
 rintro e w2 ⟨A2,c2,rfl,hO2,hU2⟩
 have HO2:=hide hO2
 clear hO2
 go_wp2_with fail
 go_ret2
 exact⟨A2,c2,rfl,HO2.out.low hU1.size,hU1.trans hU2⟩
end Go.Proofs.YtbhhjfhepkbfgaaGreat
namespace Go.Proofs.YtbhhjfhepkbfgaaGreat
set_option linter.unusedSimpArgs false
set_option linter.unusedVariables false
open Go.RowKit
open Nt Pk
theorem hasB_mem {ns:List Nat} {n:Nat}:hasB ns n=true↔n∈ns:=by
 unfold hasB
 rw[List.any_eq_true]
 exact⟨fun ⟨x,hx,e⟩=>by simp at e;exact e▸hx,fun h=>⟨n,h,by simp⟩⟩
theorem once_of :∀{ps:List Nat},(∀i,i<ps.length→gat ps i ∉ ps.take i)→once ps
 | [],_=>trivial
 | x :: l,h=>⟨fun hx=>by
     obtain⟨i,hi,e⟩:=List.getElem_of_mem hx
     refine h (i+1) (by simpa using hi) ?_
     have:gat (x :: l) (i+1)=x:=by rw[gat_lt (by simpa using hi)];simpa using e
     rw[this]
     simp,once_of fun i hi hm=>h (i+1) (by simpa using hi) (by
     have:gat (x :: l) (i+1)=gat l i:=by rw[gat_lt (by simpa using hi),gat_lt hi];rfl
     rw[this,List.take_succ_cons]
     exact List.mem_cons_of_mem _ hm)⟩
theorem holds_pr {N b:Nat} {ps bs:List Nat} (hb:∀x,x∈bs→Pr x) (h:holdsB N b ps bs=true):Pr N:=by
 unfold holdsB at h
 simp only[Bool.and_eq_true,decide_eq_true_iff,List.all_eq_true,List.mem_range]at h
 obtain⟨h2, -,h1,hk,hF⟩:=h
 have hok:∀i,i<ps.length→gat ps i ∉ ps.take i∧Pr (gat ps i)∧(N - 1) % gat ps i=0∧Nat.gcd (subm (b^((N - 1) / gat ps i) % N) 1 N) N=1:=fun i hi=>by
   have:=hk i hi
   unfold okP at this
   simp only[Bool.and_eq_true,decide_eq_true_iff,Bool.not_eq_true']at this
   obtain⟨g1,g2,g3,g4,g5⟩:=this
   refine⟨fun hm=>by rw[hasB_mem.2 hm]at g1;exact absurd g1 (by decide),?_,g4,g5⟩
   unfold knownB at g2
   rw[Bool.or_eq_true]at g2
   exact g2.elim (fun h=>hb _ (hasB_mem.1 h)) smallB_pr
 have hmem:∀p,p∈ps→∃i,i<ps.length∧gat ps i=p:=fun p hp=>by
   obtain⟨i,hi,e⟩:=List.getElem_of_mem hp
   exact⟨i,hi,by rw[gat_lt hi];exact e⟩
 refine pock h2 (fun p hp=>?_) (once_of fun i hi=>(hok i hi).1) h1 (fun p hp=>?_) hF
 · obtain⟨i,hi,rfl⟩:=hmem p hp
   exact(hok i hi).2.1
 · obtain⟨i,hi,rfl⟩:=hmem p hp
   refine⟨(hok i hi).2.2.1,?_⟩
   have:=(hok i hi).2.2.2
   have e:subm (b^((N - 1) / gat ps i) % N) 1 N=(b^((N - 1) / gat ps i) % N+N - 1) % N:=by
    unfold subm
    rw[Nat.mod_mod,Nat.mod_eq_of_lt (show 1<N by omega)]
   rw[e]at this
   exact this
theorem holdAll_pr :∀{ss:List St} {bs:List Nat},(∀x,x∈bs→Pr x)→holdAll bs ss=true→∀s,s∈ss→Pr s.N
 | [],_,_,_,s,hs=>absurd hs (by simp)
 | t :: r,bs,hb,h,s,hs=>by
   unfold holdAll at h
   rw[Bool.and_eq_true]at h
   have ht:=holds_pr hb h.1
   rcases List.mem_cons.1 hs with rfl | hs
   · exact ht
   · exact holdAll_pr (fun x hx=>by
       rcases List.mem_append.1 hx with hx | hx
       · exact hb x hx
       · rw[List.mem_singleton.1 hx];exact ht) h.2 s hs
theorem primeB_pr {n:Nat} {ss:List St} (h:primeB n ss=true):Pr n:=by
 unfold primeB at h
 rw[Bool.or_eq_true,Bool.and_eq_true,decide_eq_true_iff,List.any_eq_true]at h
 rcases h with h | ⟨h,s,hs,e⟩
 · exact smallB_pr h
 · have e2:s.N=n:=by simpa using e
   rw[←e2]
   refine holdAll_pr (bs:=[]) (fun x hx=>absurd hx (by simp)) ?_ s hs
   unfold checkE at h
   split at h
   · exact absurd h (by decide)
   · split at h
     · assumption
     · exact absurd h (by decide)
end Go.Proofs.YtbhhjfhepkbfgaaGreat
