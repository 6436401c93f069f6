/- Two bytes of a tag, in plain numbers. -/
import Derived.Test.YtdohmikoafkniaaGreatLsTagR
namespace Go.Proofs.YtdohmikoafkniaaGreat
set_option linter.unusedSimpArgs false
set_option linter.unusedVariables false
open Go.RowKit
open Nt
theorem tacc_lt (r:Nat) (b:List (BitVec 8)) (k:Nat):tacc r b k<P130:=by
 cases k with
 | zero=>exact(by decide+kernel:0<P130)
 | succ k=>exact Nat.mod_lt _ (by decide+kernel)
theorem tagN_lt {key:List (BitVec 8)} (hk:key.length=32) (b:List (BitVec 8)):tagN key b<2^131:=by
 unfold tagN
 have h1:=tacc_lt (leN (clamp (key.take 16))) b (chn b.length)
 have h2:=leN_lt (key.drop 16)
 rw[List.length_drop,hk]at h2
 have e1:P130<2^130:=by decide+kernel
 have e2:256^(32 - 16)<2^130:=by decide+kernel
 have e3:(2:Nat)^131=2^130+2^130:=by decide+kernel
 rw[e3]
 exact Nat.add_lt_add (Nat.lt_trans h1 e1) (Nat.lt_trans h2 e2)
end Go.Proofs.YtdohmikoafkniaaGreat
