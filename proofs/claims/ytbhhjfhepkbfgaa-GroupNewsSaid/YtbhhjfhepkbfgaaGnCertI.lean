/- Claims: few, chain, walked. -/
import Derived.Test.YtbhhjfhepkbfgaaGnCertH
namespace Go.Proofs.Ytbhhjfhepkbfgaa
set_option linter.unusedSimpArgs false
set_option linter.unusedVariables false
open Go.RowKit
open Nt Pk
attribute [local go_sem] steady steadyUpon Cls same_cell
attribute [local irreducible] wpHead wpTree
structure Cl where
 N:Nat
 b:Nat
 P:Option Addr
 n:Nat
 c:Nat
 ps:List Nat
instance : Inhabited Cl := ⟨⟨0, 0, none, 0, 0, []⟩⟩
def ClOk (w:World) (x:Cl):Prop:=Hid (W64 x.N)∧Hid (W64 x.b)∧Hid (∀j,j<x.ps.length→W64 (gat x.ps j))∧Sl e64 w x.P x.ps∧x.ps.length=x.n∧x.n≤x.c∧x.c≤maxLen
theorem ClOk.ext {w w':World} {x:Cl} (h:ClOk w x) (hu:Ext w w'):ClOk w' x:=⟨h.1,h.2.1,h.2.2.1,h.2.2.2.1.ext hu,h.2.2.2.2⟩
def ClL (w:World) (A:Option Addr) (cs:List Cl):Prop:=∀i,i<cs.length→∃b o,A=some ⟨b,o,none⟩∧w.cell? ⟨b,o+i*3,none⟩=some (.int .u64 ((gat cs i).N:Int))∧w.cell? ⟨b,o+i*3+1,none⟩=some (.int .u64 ((gat cs i).b:Int))∧
 w.cell? ⟨b,o+i*3+2,none⟩=some (.slice (gat cs i).P (gat cs i).n (gat cs i).c)∧ClOk w (gat cs i)
theorem ClL.ext {w w':World} {A:Option Addr} {cs:List Cl} (h:ClL w A cs) (hu:Ext w w'):ClL w' A cs:=fun i hi=>by
  obtain⟨b,o,h0,h1,h2,h3,h4⟩:=h i hi
  exact⟨b,o,h0,hu.cellv h1,hu.cellv h2,hu.cellv h3,h4.ext hu⟩
abbrev Tr3 :=Tri × Tri × Tri
def v3 (m:Tr3):List Value:=[svt m.1,svt m.2.1,svt m.2.2]
def flat3 (ms:List Tr3):List Value:=ms.flatMap v3
theorem flat3_at :∀(ms:List Tr3) (i:Nat),i<ms.length→(flat3 ms)[i*3]? =some (svt (gat ms i).1)∧(flat3 ms)[i*3+1]? =some (svt (gat ms i).2.1)∧(flat3 ms)[i*3+2]? =some (svt (gat ms i).2.2)
 | [],i,h=>absurd h (by simp)
 | m :: ms,0,_=>⟨rfl,rfl,rfl⟩
 | m :: ms,i+1,h=>by
   have:=flat3_at ms i (by simpa using h)
   have e:∀k,(flat3 (m :: ms))[(i+1)*3+k]? =(flat3 ms)[i*3+k]? :=fun k=>by
     show(v3 m++flat3 ms)[(i+1)*3+k]? =_
     rw[List.getElem?_append_right (by show 3≤_;omega)]
     congr 1
     show(i+1)*3+k - 3=_
     omega
   have e0:=e 0
   rw[Nat.add_zero,Nat.add_zero]at e0
   rw[e0,e 1,e 2]
   exact this
theorem flat3_length (ms:List Tr3):(flat3 ms).length=ms.length*3:=by
 induction ms with
 | nil=>rfl
 | cons m ms ih=>
   show(v3 m++flat3 ms).length=_
   rw[List.length_append,ih,List.length_cons]
   show 3+_=_
   omega
theorem flat3_snoc (ms:List Tr3) (m:Tr3):flat3 (ms++[m])=flat3 ms++v3 m:=by unfold flat3;simp
def Cl.st (x:Cl):St:=⟨x.N,x.b,x.ps⟩
end Go.Proofs.Ytbhhjfhepkbfgaa
