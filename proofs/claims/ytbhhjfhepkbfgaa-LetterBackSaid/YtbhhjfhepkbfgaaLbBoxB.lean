/- The box's small functions, walked: whole, size, fill. -/
import Derived.Test.YtbhhjfhepkbfgaaLbSli
import Derived.Test.YtbhhjfhepkbfgaaLbMacR
import Derived.Test.YtbhhjfhepkbfgaaLbApz
namespace Go.Proofs.Ytbhhjfhepkbfgaa
set_option linter.unusedSimpArgs false
set_option linter.unusedVariables false
open Go.RowKit
open Nt
theorem mod_mod16 (n:Nat):(16 - (n:Int) % 16) % 16=(((16 - n % 16) % 16:Nat):Int):=by omega
theorem mod_tmod16 (n:Nat):(16 - (n:Int).tmod 16).tmod 16=(((16 - n % 16) % 16:Nat):Int):=by
 have e:(n:Int).tmod 16=((n % 16:Nat):Int):=by rw[Int.tmod_eq_emod_of_nonneg (by omega)];omega
 rw[e,Int.tmod_eq_emod_of_nonneg (by omega)]
 omega
attribute [local go_sem] steady steadyUpon Cls same_cell by8
attribute [local irreducible] wpHead wpTree
def padN (n:Nat):Nat:=(16 - n % 16) % 16
def nul (k:Nat):List (BitVec 8):=List.replicate k default
theorem nul_length (k:Nat):(nul k).length=k:=List.length_replicate
def b8 (n i:Nat):BitVec 8:=BitVec.ofNat 8 (n / 2^(8*i))
def le8 (n:Nat):List (BitVec 8):=[b8 n 0,b8 n 1,b8 n 2,b8 n 3,b8 n 4,b8 n 5,b8 n 6,b8 n 7]
def boxD (side sealed:List (BitVec 8)):List (BitVec 8):=(((side++nul (padN side.length))++(sealed++nul (padN sealed.length)))++le8 side.length)++le8 sealed.length
theorem padN_lt (n:Nat):padN n<16:=Nat.mod_lt _ (by decide)
theorem b8_n (n i:Nat):n8 (b8 n i)=((n / 2^(8*i) % 256:Nat):Int):=by
 unfold n8 b8
 rw[BitVec.toNat_ofNat]
theorem le8_gat (n:Nat) {i:Nat} (h:i<8):gat (le8 n) i=b8 n i:=by
 rcases i with _ | _ | _ | _ | _ | _ | _ | _ | i<;>first | rfl | omega
def sz (n i:Nat):List (BitVec 8):=(le8 n).take i++nul (8 - i)
theorem sz_length (n:Nat) {i:Nat} (h:i≤8):(sz n i).length=8:=by unfold sz;rw[List.length_append,List.length_take,nul_length];show min i 8+(8 - i)=8;omega
theorem sz_set (n:Nat) {i:Nat} (h:i<8):(sz n i).set i (b8 n i)=sz n (i+1):=by
 rcases i with _ | _ | _ | _ | _ | _ | _ | _ | i<;>first | rfl | omega
set_option maxRecDepth 100000 in
set_option maxHeartbeats 1000000 in
theorem whole_any (A:Option Addr) (n c:Nat) (b:List (BitVec 8)) (w:World) (hS:Sl by8 w A b) (hn:b.length=n) (hl:n≤100000):
 Calls Try.prog 98 #[.slice A n c] w (RetS w (n+padN n) (b++nul (padN n))):=by
 have HS:=hide hS
 have Hn:=hide hn
 have e1:(16 - (n:Int).tmod 16).tmod 16=((padN n:Nat):Int):=mod_tmod16 n
 have e2:(16 - (n:Int) % 16) % 16=((padN n:Nat):Int):=mod_mod16 n
 have hp:=padN_lt n
 clear hS hn
 go_enter Try.func98,Try.ntmps98
 go_wp2_with (first
  | (at_builtin;refine wpList_apd by8 one8 Try.n_el8 [] b b n rfl Hn.out (by omega) (by unfold maxLen;omega) rfl rfl rfl rfl (own_none8 w (B:=w.heap.size) (Nat.le_refl _)) rfl Hn.out (HS.out.ext ((Upd.refl _ _).alloc _)) (by simp) ?_;intro A1 c1 w1 hO1 hU1 hin1)
  | (at_builtin;go_must (refine wpList_apz _ by8 default rfl Try.n_el8 (by kernel_rfl) b (b++nul (padN n)) (padN n) (n+padN n) rfl (by rw[List.length_append,nul_length,Hn.out]) (by omega) rfl rfl rfl Hn.out hO1 (congrArg (Value.int .i64) e2) (by have:=hU1.size;simp at this ⊢;omega) ?_);intro A2 c2 w2 hO2 hU2 hin2))
 have hE1:Ext w w1:=Upd.fresh hU1 ((Upd.refl _ _).alloc _) (fun k hk=>by unfold inA at hk;simp at hk;omega)
 have hE2:Ext w w2:=Upd.fresh hU2 hE1 (fun i hi=>(hO1.in_ hi).1)
 go_ret
 exact⟨_,_,rfl,hO2,hE2⟩
set_option maxRecDepth 100000 in
set_option maxHeartbeats 1000000 in
theorem bsize_any (n:Nat) (w:World) (hl:n≤100000):
 Calls Try.prog 99 #[.int .i64 (n:Int)] w (RetS w 8 (le8 n)):=by
 go_enter Try.func99,Try.ntmps99
 go_wp2_with (at_make;go_must (refine wpList_mk _ _ _ Try.n_el8 rfl rfl 8 rfl rfl rfl rfl (by omega) (by unfold maxLen;omega) by8 rfl rfl (B:=w.heap.size) (by simp) ?_);intro g w1 hO hg hU1)
 subst hg
 go_loopw [8] (fun i wr=>∃k:Nat,k≤8∧i=.int .i64 (k:Int)∧Own wr w.heap.size 5 (some ⟨w.heap.size,0,none⟩) 8 ((sz n k).map by8)∧Ext w wr) (fun i _=>8 - (intOf i).toNat)
 case atStart=>exact⟨0,Nat.zero_le _,rfl,hO,hU1⟩
 case round=>
  clear hO hU1
  obtain⟨k,hk,rfl,hO,hU⟩:=hrel
  by_cases hk8:k<8
  · have hkI:(k:Int)<8:=by omega
    have ck:=hO.row.cell (i:=k) (by rw[sz_length n hk];omega)
    have fk:=hO.row.frozen k
    have hO2:=hO.set (i:=k) (by rw[sz_length n hk];omega) (b8 n k) rfl
    rw[sz_set n hk8]at hO2
    have hU2:Ext w (wr.setCell ⟨w.heap.size,k,none⟩ (by8 (b8 n k))):=Upd.fresh ((Upd.refl _ _).setCell (T:=only w.heap.size) (p:=⟨w.heap.size,k,none⟩) (.inl rfl) _) hU (fun i hi=>by unfold only at hi;omega)
    have HO2:=hide hO2
    have HU2:=hide hU2
    have hv:(n:Int) / 2^(8*k) % 256=n8 (b8 n k):=by rw[b8_n];simp
    clear hO2 hU2 hO hU
    go_wp2_with fail
    go_roundw
    case rel=>exact⟨k+1,by omega,by go_num,HO2.out,HU2.out⟩
    case measure=>simp[intOf];omega
  · have hkI:¬(k:Int)<8:=by omega
    obtain rfl:k=8:=by omega
    have hO':Own wr w.heap.size 5 (some ⟨w.heap.size,0,none⟩) 8 ((le8 n).map by8):=hO
    go_wp2_with fail
    go_ret
    exact⟨_,_,rfl,hO',hU⟩
end Go.Proofs.Ytbhhjfhepkbfgaa
