/- GroupNews, walked. -/
import Derived.Test.YtbhhjfhepkbfgaaGnGrpZ
namespace Go.Proofs.Ytbhhjfhepkbfgaa
set_option linter.unusedSimpArgs false
set_option linter.unusedVariables false
open Go.RowKit
open Nt Sha Pk
attribute [local go_sem] steady steadyUpon Cls same_cell
attribute [local irreducible] wpHead wpTree Sha.sum
set_option maxRecDepth 100000 in
set_option maxHeartbeats 2000000 in
theorem gnews_few (p q g:Nat) (As:Option Addr) (ls cs:Nat) (A:Option Addr) (n c:Nat) (w:World) (h:3<n∨200<ls):
 Calls Try.prog 3 #[.int .u64 (p:Int),.int .u64 (q:Int),.int .u64 (g:Int),.slice As ls cs,.slice A n c] w fun e w'=>e=.returned (.bool true)∧Ext w w':=by
 go_enter Try.func3,Try.ntmps3
 by_cases h3:3<n
 · have h3I:(3:Int)<(n:Int):=by omega
   go_wp2_with fail
   refine(glives_any _).mono ?_
   rintro e w1 ⟨rfl,hU1⟩
   go_wp2_with fail
   refine(glives_any _).mono ?_
   rintro e w2 ⟨rfl,hU2⟩
   have hE:=hU1.trans hU2
   go_wp2_with fail
   go_ret
   exact⟨rfl,hE⟩
 · have h3I:¬(3:Int)<(n:Int):=by omega
   have hlI:(200:Int)<(ls:Int):=by omega
   go_wp2_with fail
   refine(glives_any _).mono ?_
   rintro e w1 ⟨rfl,hU1⟩
   go_wp2_with fail
   refine(glives_any _).mono ?_
   rintro e w2 ⟨rfl,hU2⟩
   have hE:=hU1.trans hU2
   go_wp2_with fail
   go_ret
   exact⟨rfl,hE⟩
theorem gnews_any (p q g:Nat) (As:Option Addr) (ls cs:Nat) (sd:List (BitVec 8)) (A:Option Addr) (n c:Nat) (cl:List Cl) (w:World) (hp:p<18446744073709551616) (hq:q<18446744073709551616) (hg:g<18446744073709551616) (hS:Sl by8 w As sd) (hsl:sd.length=ls) (hsc:ls≤cs) (hsm:cs≤maxLen) (hL:ClL w A cl) (hn:cl.length=n):
 Calls Try.prog 3 #[.int .u64 (p:Int),.int .u64 (q:Int),.int .u64 (g:Int),.slice As ls cs,.slice A n c] w fun e w'=>e=.returned (.bool true)∧Ext w w':=by
 by_cases h:3<n∨200<ls
 · exact gnews_few p q g As ls cs A n c w h
 · exact gnews_main p q g As ls cs sd A n c cl w hp hq hg hS hsl hsc hsm (by omega) hL hn (by omega)
end Go.Proofs.Ytbhhjfhepkbfgaa
