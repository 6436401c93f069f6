/- What an entry uses, walked: uses. -/
import Derived.Test.YtbhhjfhepkbfgaaGreatWsWirB
namespace Go.Proofs.YtbhhjfhepkbfgaaGreat
set_option linter.unusedSimpArgs false
set_option linter.unusedVariables false
open Go.RowKit
open Nt Sha
attribute [local go_sem] steady steadyUpon Cls same_cell
attribute [local irreducible] wpHead wpTree
def uMode (K:Int):Bool:=K == 1
def uPeer (K:Int):Bool:=K == 1 || (K == 3 || K == 6)
def uPhase (K:Int):Bool:=K == 4
def uNums (K:Int):Bool:=(K == 2 || K == 7) || ((K == 3 || K == 6) || K == 5)
def uTexts (K:Int):Bool:=K == 2 || K == 7
def uProof (K:Int):Bool:=K == 3 || K == 6
def usesB (K mode peer phase:Int) (ln lt lp:Nat):Bool:=
 (uMode K || mode == 0) && ((uPeer K || peer == 0) && ((uPhase K || phase == 0) && ((uNums K || (ln:Int) == 0) && ((uTexts K || (lt:Int) == 0) && (uProof K || (lp:Int) == 0)))))
set_option maxRecDepth 100000 in
set_option maxHeartbeats 4000000 in
theorem wuses_any (K au ep mode peer phase:Int) (L1 L2 P:Option Addr) (ln c1 lt c2 lp c3:Nat) (w:World):
 Calls Tryz.prog 37 #[.agg #[.int .i64 K,.int .i64 au,.int .i64 ep,.int .i64 mode,.int .i64 peer,.int .i64 phase,.slice L1 ln c1,.slice L2 lt c2,.slice P lp c3]] w fun e w'=>e=.returned (.bool (usesB K mode peer phase ln lt lp))∧Ext w w':=by
 go_enter Tryz.func37,Tryz.ntmps37
 by_cases h1:K=1
 · subst h1
   go_wp2_with fail
   all_goals (first | go_ret | skip)
   all_goals (refine⟨?_,(Upd.refl _ _).alloc _⟩)
   all_goals (simp_all [usesB,uMode,uPeer,uPhase,uNums,uTexts,uProof])
 by_cases h2:K=2
 · subst h2
   go_wp2_with fail
   all_goals (first | go_ret | skip)
   all_goals (refine⟨?_,(Upd.refl _ _).alloc _⟩)
   all_goals (simp_all [usesB,uMode,uPeer,uPhase,uNums,uTexts,uProof])
 by_cases h3:K=3
 · subst h3
   go_wp2_with fail
   all_goals (first | go_ret | skip)
   all_goals (refine⟨?_,(Upd.refl _ _).alloc _⟩)
   all_goals (simp_all [usesB,uMode,uPeer,uPhase,uNums,uTexts,uProof])
 by_cases h4:K=4
 · subst h4
   go_wp2_with fail
   all_goals (first | go_ret | skip)
   all_goals (refine⟨?_,(Upd.refl _ _).alloc _⟩)
   all_goals (simp_all [usesB,uMode,uPeer,uPhase,uNums,uTexts,uProof])
 by_cases h5:K=5
 · subst h5
   go_wp2_with fail
   all_goals (first | go_ret | skip)
   all_goals (refine⟨?_,(Upd.refl _ _).alloc _⟩)
   all_goals (simp_all [usesB,uMode,uPeer,uPhase,uNums,uTexts,uProof])
 by_cases h6:K=6
 · subst h6
   go_wp2_with fail
   all_goals (first | go_ret | skip)
   all_goals (refine⟨?_,(Upd.refl _ _).alloc _⟩)
   all_goals (simp_all [usesB,uMode,uPeer,uPhase,uNums,uTexts,uProof])
 by_cases h7:K=7
 · subst h7
   go_wp2_with fail
   all_goals (first | go_ret | skip)
   all_goals (refine⟨?_,(Upd.refl _ _).alloc _⟩)
   all_goals (simp_all [usesB,uMode,uPeer,uPhase,uNums,uTexts,uProof])
 have e1:(K == 1)=false:=beq_eq_false_iff_ne.2 h1
 have e2:(K == 2)=false:=beq_eq_false_iff_ne.2 h2
 have e3:(K == 3)=false:=beq_eq_false_iff_ne.2 h3
 have e4:(K == 4)=false:=beq_eq_false_iff_ne.2 h4
 have e5:(K == 5)=false:=beq_eq_false_iff_ne.2 h5
 have e6:(K == 6)=false:=beq_eq_false_iff_ne.2 h6
 have e7:(K == 7)=false:=beq_eq_false_iff_ne.2 h7
 clear h1 h2 h3 h4 h5 h6 h7
 go_wp2_with fail
 all_goals (first | go_ret | skip)
 all_goals (refine⟨?_,(Upd.refl _ _).alloc _⟩)
 all_goals (simp_all [usesB,uMode,uPeer,uPhase,uNums,uTexts,uProof])
end Go.Proofs.YtbhhjfhepkbfgaaGreat
