/- Claims that came in. -/
import Derived.Test.YtbhhjfhepkbfgaaGnCertI
import Derived.Deep.Slices
import Derived.Deep.Strs
namespace Go.Proofs.Ytbhhjfhepkbfgaa
set_option linter.unusedSimpArgs false
set_option linter.unusedVariables false
open Go.RowKit
open Go.Deep Go.ChangeShapes Go.WideShapes
theorem spot_of {w:World} {x:Addr} {v:Value} (h:w.cell? x=some v):x.spot=none:=by
 cases hs:x.spot with
 | none=>rfl
 | some s=>
   unfold World.cell? at h
   rw[hs]at h
   split at h<;>simp at h
theorem w64_in {w:World} {a:Option Addr} {len cap:Nat} {zs:List Int}
 (h:(a=none∧len=0∧cap=0∧zs=[])∨∃x,a=some x∧len≤cap∧cap≤maxLen∧zs.length=cap∧(∀i,i<zs.length→w.cell? (x.add i)=some (.int .u64 (zs.getD i 0)))∧∀n∈zs,(Lit.int .u64 n).wf=true):
 ∃ps:List Nat,ps.length=len∧len≤cap∧cap≤maxLen∧Sl e64 w a ps∧∀j,j<ps.length→W64 (gat ps j):=by
 rcases h with ⟨rfl,rfl,rfl,rfl⟩ | ⟨x,rfl,hl,hm,hz,hc,hw⟩
 · exact⟨[],rfl,Nat.le_refl _,Nat.zero_le _,Sl.nil,fun j hj=>absurd hj (by simp)⟩
 · have each:∀i,i<len→gat ((zs.take len).map Int.toNat) i=(zs.getD i 0).toNat∧(((zs.getD i 0).toNat:Nat):Int)=zs.getD i 0∧W64 (zs.getD i 0).toNat:=fun i hi=>by
     have hmem:zs.getD i 0∈zs:=by
      rw[List.getD_eq_getElem?_getD,List.getElem?_eq_getElem (by omega)]
      exact List.getElem_mem _
     obtain⟨N,e,hN⟩:=cu64_in (hw _ hmem)
     refine⟨?_,?_,?_⟩
     · simp only[gat,List.getD_eq_getElem?_getD,List.getElem?_map,List.getElem?_take]
       rw[if_pos (by omega),List.getElem?_eq_getElem (by omega)]
       rfl
     · rw[e];simp
     · rw[e];exact hN
   refine⟨(zs.take len).map Int.toNat,by simp;omega,hl,hm,fun i hi=>?_,fun j hj=>?_⟩
   · simp only[List.length_map,List.length_take]at hi
     have h0:=hc i (by omega)
     have hx:x.spot=none:=spot_of (x:=x) (by
      have h1:=hc 0 (by omega)
      simpa only[Addr.add,if_true] using h1)
     obtain⟨b,o,s⟩:=x
     simp only at hx
     subst hx
     refine⟨b,o,rfl,?_⟩
     rw[Addr.add_lit]at h0
     obtain⟨g1,g2, -⟩:=each i (by omega)
     rw[h0,g1]
     unfold e64
     rw[g2]
   · simp only[List.length_map,List.length_take]at hj
     obtain⟨g1, -,g3⟩:=each j (by omega)
     rw[g1];exact g3
section
variable {H : Type} {enc : TypeId × Value → H} {P : Program} {w : World} {base : Nat} {held : Bool}
theorem claim_in {e q u:TypeId} {f0 f1 f2:Field} {fuel:Nat} {vs:List Value} {x:DataW H × List MemPlace} (he:P.underlying e=some (.struct #[f0,f1,f2])) (hu:P.underlying u=some (.int .u64)) (hq:P.underlying q=some (.slice u))
 (g0:f0.type=u∧f0.offset=0) (g1:f1.type=u∧f1.offset=1) (g2:f2.type=q∧f2.offset=2) (ce:P.cellsOf e=3) (cu:P.cellsOf u=1) (cq:P.cellsOf q=1)
 (h:DataW.trod enc P w base (fun _=>true) held fuel e vs=some x):∃c:Cl,vs=[.int .u64 (c.N:Int),.int .u64 (c.b:Int),.slice c.P c.n c.c]∧ClOk w c:=by
 obtain⟨y0,y1,y2,n', -,hl,t0,t1,t2⟩:=trod_struct3 he h
 rw[ce]at hl
 rw[g0.1,g0.2,cu]at t0
 rw[g1.1,g1.2,cu]at t1
 rw[g2.1,g2.2,cq]at t2
 match vs,hl with
 | [v0,v1,v2],_=>
   obtain⟨z0,e0, -,w0⟩:=DataW.trod_int hu t0
   obtain⟨z1,e1, -,w1⟩:=DataW.trod_int hu t1
   simp at e0 e1
   obtain⟨N,rfl,hN⟩:=cu64_in w0
   obtain⟨b,rfl,hb⟩:=cu64_in w1
   have key:∃A n c zs,v2=.slice A n c∧((A=none∧n=0∧c=0∧zs=[])∨∃x,A=some x∧n≤c∧c≤maxLen∧zs.length=c∧(∀i,i<zs.length→w.cell? (x.add i)=some (.int .u64 (zs.getD i 0)))∧∀n∈zs,(Lit.int .u64 n).wf=true):=by
    rcases open_ints hq hu cu t2 with ⟨hcs,_⟩ | ⟨y,l,c,zs,hcs,_,hl,hm,hz,_,hcell,hwz⟩
    · simp at hcs
      exact⟨none,0,0,[],hcs,.inl ⟨rfl,rfl,rfl,rfl⟩⟩
    · simp at hcs
      exact⟨some y,l,c,zs,hcs,.inr ⟨y,rfl,hl,hm,by simpa using hz,hcell,hwz⟩⟩
   obtain⟨A,n,c,zs,rfl,hr⟩:=key
   obtain⟨ps,p1,p2,p3,p4,p5⟩:=w64_in hr
   exact⟨⟨N,b,A,n,c,ps⟩,by rw[e0,e1],hide hN,hide hb,hide p5,p4,p1,p2,p3⟩
def ClsIn (w:World) (a:Option Addr) (len cap:Nat):Prop:=∃cs:List Cl,cs.length=len∧len≤cap∧cap≤maxLen∧ClL w a cs
theorem claims_in {t e q u:TypeId} {f0 f1 f2:Field} {fuel:Nat} {a:Option Addr} {len cap:Nat} {x:DataW H × List MemPlace} (ht:P.underlying t=some (.slice e)) (he:P.underlying e=some (.struct #[f0,f1,f2])) (hu:P.underlying u=some (.int .u64)) (hq:P.underlying q=some (.slice u))
 (g0:f0.type=u∧f0.offset=0) (g1:f1.type=u∧f1.offset=1) (g2:f2.type=q∧f2.offset=2) (ce:P.cellsOf e=3) (cu:P.cellsOf u=1) (cq:P.cellsOf q=1)
 (h:DataW.trod enc P w base (fun _=>true) held fuel t (Value.slice a len cap).cells.toList=some x):ClsIn w a len cap:=by
 rcases open_slice ht h with ⟨hcs,_⟩ | ⟨y,l,c,m,n,D,Pl,hcs,_,hl,hm,hmm,_,hx⟩
 · simp[Value.cells]at hcs
   obtain⟨rfl,rfl,rfl⟩:=hcs
   exact⟨[],rfl,Nat.le_refl _,Nat.zero_le _,fun i hi=>absurd hi (by simp)⟩
 · simp[Value.cells]at hcs
   obtain⟨rfl,rfl,rfl⟩:=hcs
   rw[if_pos rfl]at hmm
   have each:∀r,∃cl:Cl,r<len→(∀j,j<3→w.cell? ((y.add (r*3)).add j)=([.int .u64 (cl.N:Int),.int .u64 (cl.b:Int),.slice cl.P cl.n cl.c]:List Value)[j]?)∧ClOk w cl:=fun r=>by
     by_cases hr:r<len
     · obtain⟨vs,h1,h2⟩:=hx r (by omega)
       rw[ce]at h1
       obtain⟨-, -,hcell⟩:=World.cells?_some h1
       obtain⟨cl,rfl,hok⟩:=claim_in he hu hq g0 g1 g2 ce cu cq h2
       exact⟨cl,fun _=>⟨hcell,hok⟩⟩
     · exact⟨default,fun h=>absurd h hr⟩
   obtain⟨C,hC⟩:=Classical.axiomOfChoice each
   have hg:∀i,i<len→gat ((List.range len).map C) i=C i:=fun i hi=>by simp[gat,hi]
   refine⟨(List.range len).map C,by simp,hl,hm,fun i hi=>?_⟩
   simp only[List.length_map,List.length_range]at hi
   have hsp:y.spot=none:=spot_of (x:=y) (by
    have h0:=(hC 0 (by omega)).1 0 (by omega)
    simpa[Addr.add] using h0)
   obtain⟨b,o,s⟩:=y
   simp only at hsp
   subst hsp
   obtain⟨h3,hok⟩:=hC i hi
   refine⟨b,o,rfl,?_,?_,?_,?_⟩
   · have:=h3 0 (by omega);rw[Addr.add_lit,Addr.add_lit]at this;rw[hg i hi];simpa using this
   · have:=h3 1 (by omega);rw[Addr.add_lit,Addr.add_lit]at this;rw[hg i hi];simpa using this
   · have:=h3 2 (by omega);rw[Addr.add_lit,Addr.add_lit]at this;rw[hg i hi];simpa using this
   · rw[hg i hi];exact hok
end
end Go.Proofs.Ytbhhjfhepkbfgaa
