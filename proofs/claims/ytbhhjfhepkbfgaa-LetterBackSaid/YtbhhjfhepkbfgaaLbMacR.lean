/- The document's tags and keys, walked. -/
import Derived.Test.YtbhhjfhepkbfgaaLbMacs
namespace Go.Proofs.Ytbhhjfhepkbfgaa
set_option linter.unusedSimpArgs false
set_option linter.unusedVariables false
open Go.RowKit
open Sha
open Mac
attribute [local go_sem] steady steadyUpon Cls same_cell by8 by32
attribute [local go_sem] xor_u8 or_u8
theorem derive_any (A:Option Addr) (n c:Nat) (salt:List (BitVec 8)) (D:Option Addr) (m d:Nat) (sec:List (BitVec 8)) (F:Option Addr) (l f:Nat) (info:List (BitVec 8)) (N:Nat) (w:World)
 (hS:Sl by8 w A salt) (hn:salt.length=n) (hc:n≤c) (hm:c≤maxLen) (hl:n≤10000000)
 (hS':Sl by8 w D sec) (hn':sec.length=m) (hd:m≤d) (hd':d≤maxLen) (hl':m≤10000000)
 (hS2:Sl by8 w F info) (hn2:info.length=l) (hd2:l≤f) (hd2':f≤maxLen) (hl2:l≤1000000) (hN:N≤8160):
 Calls Try.prog 33 #[.slice A n c,.slice D m d,.slice F l f,.int .i64 N] w (MRetE w N (expand (tag salt sec) info N)):=by
 have HS2:=hide hS2
 have Hn2:=hide hn2
 have Hd2':=hide hd2'
 clear hS2 hn2 hd2'
 have hex:=extract_any A n c salt D m d sec w hS hn hc hm hl hS' hn' hd hd' hl'
 have Hex:=hide hex
 clear hex hS hn hm hS' hn' hd'
 go_enter Try.func33,Try.ntmps33
 go_wp2_with fail
 refine Hex.out.mono ?_
 rintro e w1 ⟨A1,c1,rfl,hO1,hU1⟩
 have hp:=hO1.mpt (tag_length _ _)
 have Hp:=hide hp
 clear hp hO1 Hex
 go_wp2_with fail
 refine(expand_any A1 32 c1 (tag salt sec) F l f info N w1 Hp.out.1 (tag_length _ _) Hp.out.2.2.1 Hp.out.2.2.2 (by omega) (HS2.out.ext hU1) Hn2.out hd2 Hd2'.out hl2 hN).mono ?_
 rintro e w2 ⟨A2,c2,rfl,hO2,hU2⟩
 have HO2:=hide hO2
 clear hO2
 go_wp2_with fail
 go_ret2
 exact⟨A2,c2,rfl,HO2.out.low hU1.size,hU1.trans hU2⟩
end Go.Proofs.Ytbhhjfhepkbfgaa
