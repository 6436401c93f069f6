/- Votes and entries that came in. -/
import Derived.Deep.Matrix
import Derived.Deep.Grids
import Derived.Test.YtbhhjfhepkbfgaaGreatWsWirV
import Derived.Deep.Slices
import Derived.Deep.Strs
namespace Go.Proofs.YtbhhjfhepkbfgaaGreat
set_option linter.unusedSimpArgs false
set_option linter.unusedVariables false
open Go.RowKit
open Sha
open Go.Deep
def RowsIn (w:World) (a:Option Addr) (len cap:Nat):Prop:=∃ps:List Pt,ps.length=len∧len≤cap∧cap≤maxLen∧Pts w a ps
section
variable {H : Type} {enc : TypeId × Value → H} {P : Program} {w : World} {base : Nat} {held : Bool}
theorem rows_in {t e q:TypeId} {fuel:Nat} {a:Option Addr} {len cap:Nat} {x:DataW H × List MemPlace} (ht:P.underlying t=some (.slice e)) (he:P.underlying e=some (.slice q)) (hq:P.underlying q=some (.int .u8)) (ce:P.cellsOf e=1) (cq:P.cellsOf q=1)
 (h:DataW.trod enc P w base (fun _=>true) held fuel t (Value.slice a len cap).cells.toList=some x):RowsIn w a len cap:=by
 rcases open_int_rows ht he hq ce cq h with ⟨hcs,_⟩ | ⟨y,l,c,A,L,C,Z,hcs,_,hl,hm,_,hcell⟩
 · simp[Value.cells]at hcs
   obtain⟨rfl,rfl,rfl⟩:=hcs
   exact⟨[],rfl,Nat.le_refl _,Nat.zero_le _,Sl.nil,fun i hi=>absurd hi (by simp)⟩
 · simp[Value.cells]at hcs
   obtain⟨rfl,rfl,rfl⟩:=hcs
   have each:∀r,∃bs:List (BitVec 8),r<len→Pt.ok w ⟨A r,L r,C r,bs⟩:=fun r=>by
     by_cases hr:r<len
     · obtain⟨h1,h2,h3,h4,h5,h6,h7⟩:=hcell r (by omega)
       have key:(A r=none∧L r=0∧C r=0∧Z r=[])∨∃x,A r=some x∧L r≤C r∧C r≤maxLen∧(Z r).length=C r∧(∀i,i<(Z r).length→w.cell? (x.add i)=some (.int .u8 ((Z r).getD i 0)))∧∀n∈Z r,(Lit.int .u8 n).wf=true:=by
        cases hA:A r with
        | none=>
          have hc0:=h6 hA
          exact .inl ⟨rfl,by omega,hc0,List.eq_nil_of_length_eq_zero (by omega)⟩
        | some x=>exact .inr ⟨x,rfl,h2,h3,h4,fun i hi=>(h7 x hA).2 i (by omega),h5⟩
       obtain⟨bs,g1,g2,g3,g4⟩:=bytes_in key
       exact⟨bs,fun _=>⟨g4,g1,g2,g3⟩⟩
     · exact⟨[],fun h=>absurd h hr⟩
   obtain⟨B,hB⟩:=Classical.axiomOfChoice each
   have hg:∀i,i<len→gat ((List.range len).map fun r=>(⟨A r,L r,C r,B r⟩:Pt)) i=⟨A i,L i,C i,B i⟩:=fun i hi=>by simp[gat,hi]
   refine⟨(List.range len).map fun r=>⟨A r,L r,C r,B r⟩,by simp,hl,hm,fun i hi=>?_,fun i hi=>?_⟩
   · simp only[List.length_map,List.length_range]at hi
     have hx:y.spot=none:=by
      have h0:=(hcell 0 (by omega)).1
      cases hs:y.spot with
      | none=>rfl
      | some s=>
        simp only[Addr.add,if_true]at h0
        unfold World.cell? at h0
        rw[hs]at h0
        split at h0<;>simp at h0
     obtain⟨b,o,s⟩:=y
     simp only at hx
     subst hx
     refine⟨b,o,rfl,?_⟩
     have h0:=(hcell i (by omega)).1
     rw[Addr.add_lit]at h0
     rw[h0,hg i hi]
     rfl
   · simp only[List.length_map,List.length_range]at hi
     rw[hg i hi]
     exact hB i hi
end
end Go.Proofs.YtbhhjfhepkbfgaaGreat
namespace Go.Proofs.YtbhhjfhepkbfgaaGreat
set_option linter.unusedSimpArgs false
set_option linter.unusedVariables false
open Go.RowKit
open Nt Sha
open Go.Deep Go.ChangeShapes Go.WideShapes
section
variable {H : Type} {enc : TypeId × Value → H} {P : Program} {w : World} {base : Nat} {held : Bool}
theorem fld {fs:Array Field} {cs:List Value} {xs:List (DataW H × List MemPlace)} {n i o c:Nat} {ty:TypeId} (hlen:xs.length=fs.size) (hf:∀(i:Nat) (f:Field),fs[i]? =some f→DataW.trod enc P w base (fun _=>true) held n f.type ((cs.drop f.offset).take (P.cellsOf f.type))=xs[i]?)
    (g:∃f,fs[i]? =some f∧f.type=ty∧f.offset=o) (hc:P.cellsOf ty=c):∃y,DataW.trod enc P w base (fun _=>true) held n ty ((cs.drop o).take c)=some y:=by
  obtain⟨f,h1,h2,h3⟩:=g
  have:=hf i f h1
  rw[h2,h3,hc]at this
  have hi:i<xs.length:=by rw[hlen];exact(Array.getElem?_eq_some_iff.1 h1).1
  exact⟨xs[i],by rw[this];exact List.getElem?_eq_getElem hi⟩
theorem bytes_v {q u:TypeId} {fuel:Nat} {v:Value} {x:DataW H × List MemPlace} (hq:P.underlying q=some (.slice u)) (hu:P.underlying u=some (.int .u8)) (cu:P.cellsOf u=1)
 (h:DataW.trod enc P w base (fun _=>true) held fuel q [v]=some x):∃A n c,∃bs:List (BitVec 8),v=.slice A n c∧bs.length=n∧n≤c∧c≤maxLen∧Sl by8 w A bs:=by
 have key:∃A n c zs,v=.slice A n c∧((A=none∧n=0∧c=0∧zs=[])∨∃x,A=some x∧n≤c∧c≤maxLen∧zs.length=c∧(∀i,i<zs.length→w.cell? (x.add i)=some (.int .u8 (zs.getD i 0)))∧∀n∈zs,(Lit.int .u8 n).wf=true):=by
  rcases open_ints hq hu cu h with ⟨hcs,_⟩ | ⟨y,l,c,zs,hcs,_,hl,hm,hz,_,hcell,hwz⟩
  · simp at hcs
    exact⟨none,0,0,[],hcs,.inl ⟨rfl,rfl,rfl,rfl⟩⟩
  · simp at hcs
    exact⟨some y,l,c,zs,hcs,.inr ⟨y,rfl,hl,hm,by simpa using hz,hcell,hwz⟩⟩
 obtain⟨A,n,c,zs,rfl,hr⟩:=key
 obtain⟨bs,p1,p2,p3,p4⟩:=bytes_in hr
 exact⟨A,n,c,bs,rfl,p1,p2,p3,p4⟩
theorem rows_v {t e q:TypeId} {fuel:Nat} {v:Value} {x:DataW H × List MemPlace} (ht:P.underlying t=some (.slice e)) (he:P.underlying e=some (.slice q)) (hq:P.underlying q=some (.int .u8)) (ce:P.cellsOf e=1) (cq:P.cellsOf q=1)
 (h:DataW.trod enc P w base (fun _=>true) held fuel t [v]=some x):∃A n c,v=.slice A n c∧RowsIn w A n c:=by
 have key:∃A n c,v=.slice A n c:=by
  rcases DataW.trod_slice ht h with ⟨hcs,_⟩ | ⟨y,l,c,elems,rest,n, -,hcs, -⟩
  · simp at hcs;exact⟨none,0,0,hcs⟩
  · simp at hcs;exact⟨some y,l,c,hcs⟩
 obtain⟨A,n,c,rfl⟩:=key
 exact⟨A,n,c,rfl,rows_in ht he hq ce cq (by simpa[Value.cells] using h)⟩
structure Pl where
 K:Int
 au:Int
 ep:Int
 mode:Int
 peer:Int
 phase:Int
 L1:Option Addr
 ln:Nat
 c1:Nat
 qs:List Pt
 L2:Option Addr
 lt:Nat
 c2:Nat
 ps:List Pt
 P:Option Addr
 lp:Nat
 c3:Nat
 pr:List B8
def Pl.cs (x:Pl):Array Value:=#[.int .i64 x.K,.int .i64 x.au,.int .i64 x.ep,.int .i64 x.mode,.int .i64 x.peer,.int .i64 x.phase,.slice x.L1 x.ln x.c1,.slice x.L2 x.lt x.c2,.slice x.P x.lp x.c3]
structure PlOk (w:World) (x:Pl):Prop where
 nums:Pts w x.L1 x.qs
 nlen:x.qs.length=x.ln
 ncap:x.ln≤x.c1
 nmax:x.c1≤maxLen
 texts:Pts w x.L2 x.ps
 tlen:x.ps.length=x.lt
 tcap:x.lt≤x.c2
 tmax:x.c2≤maxLen
 proof:Sl by8 w x.P x.pr
 plen:x.pr.length=x.lp
 pcap:x.lp≤x.c3
 pmax:x.c3≤maxLen
theorem PlOk.ext {w w':World} {x:Pl} (h:PlOk w x) (hu:Ext w w'):PlOk w' x:=⟨h.nums.ext hu,h.nlen,h.ncap,h.nmax,h.texts.ext hu,h.tlen,h.tcap,h.tmax,h.proof.ext hu,h.plen,h.pcap,h.pmax⟩
theorem plain_in {e i r q u:TypeId} {fs:Array Field} {fuel:Nat} {vs:List Value} {x:DataW H × List MemPlace} (he:P.underlying e=some (.struct fs)) (hi:P.underlying i=some (.int .i64)) (hr:P.underlying r=some (.slice q)) (hq:P.underlying q=some (.slice u)) (hu:P.underlying u=some (.int .u8))
 (g:∀k,k<6→∃f,fs[k]? =some f∧f.type=i∧f.offset=k) (g6:∃f,fs[6]? =some f∧f.type=r∧f.offset=6) (g7:∃f,fs[7]? =some f∧f.type=r∧f.offset=7) (g8:∃f,fs[8]? =some f∧f.type=q∧f.offset=8) (ce:P.cellsOf e=9) (ci:P.cellsOf i=1) (cr:P.cellsOf r=1) (cq:P.cellsOf q=1) (cu:P.cellsOf u=1)
 (h:DataW.trod enc P w base (fun _=>true) held fuel e vs=some x):∃c:Pl,vs=c.cs.toList∧PlOk w c:=by
 obtain⟨xs,n, -, -,hl,hlen,hf⟩:=DataW.trod_struct he h
 rw[ce]at hl
 obtain⟨y0,t0⟩:=fld hlen hf (g 0 (by omega)) ci
 obtain⟨y1,t1⟩:=fld hlen hf (g 1 (by omega)) ci
 obtain⟨y2,t2⟩:=fld hlen hf (g 2 (by omega)) ci
 obtain⟨y3,t3⟩:=fld hlen hf (g 3 (by omega)) ci
 obtain⟨y4,t4⟩:=fld hlen hf (g 4 (by omega)) ci
 obtain⟨y5,t5⟩:=fld hlen hf (g 5 (by omega)) ci
 obtain⟨y6,t6⟩:=fld hlen hf g6 cr
 obtain⟨y7,t7⟩:=fld hlen hf g7 cr
 obtain⟨y8,t8⟩:=fld hlen hf g8 cq
 match vs,hl with
 | [v0,v1,v2,v3,v4,v5,v6,v7,v8],_=>
   obtain⟨z0,e0, -, -⟩:=DataW.trod_int hi t0
   obtain⟨z1,e1, -, -⟩:=DataW.trod_int hi t1
   obtain⟨z2,e2, -, -⟩:=DataW.trod_int hi t2
   obtain⟨z3,e3, -, -⟩:=DataW.trod_int hi t3
   obtain⟨z4,e4, -, -⟩:=DataW.trod_int hi t4
   obtain⟨z5,e5, -, -⟩:=DataW.trod_int hi t5
   simp at e0 e1 e2 e3 e4 e5
   obtain⟨A1,m1,d1,rfl,qs,r1,r2,r3,r4⟩:=rows_v hr hq hu cq cu (by simpa using t6)
   obtain⟨A2,m2,d2,rfl,ps,s1,s2,s3,s4⟩:=rows_v hr hq hu cq cu (by simpa using t7)
   obtain⟨A,m,c,bs,rfl,p1,p2,p3,p4⟩:=bytes_v hq hu cu (by simpa using t8)
   exact⟨⟨z0,z1,z2,z3,z4,z5,A1,m1,d1,qs,A2,m2,d2,ps,A,m,c,bs⟩,by rw[e0,e1,e2,e3,e4,e5];rfl,r4,r1,r2,r3,s4,s1,s2,s3,p4,p1,p2,p3⟩
end
end Go.Proofs.YtbhhjfhepkbfgaaGreat
