/- The sum of a hash, walked. -/
import Derived.Test.YtjdodhooojjldaaShaS
namespace Go.Proofs.Ytjdodhooojjldaa
set_option linter.unusedSimpArgs false
set_option linter.unusedVariables false
open Go.RowKit
open Sha
attribute [local go_sem] steady steadyUpon Cls same_cell by8 by32 by64
attribute [local go_sem] conv_u32_u8 shr8_u32 shr16_u32 shr24_u32

def RetS (w : World) (n : Nat) (bs : List (BitVec 8)) (e : Ending) (w' : World) : Prop :=
  ∃ A c, e = .returned (.slice A n c) ∧ Own w' w.heap.size 5 A c (bs.map by8) ∧ Ext w w'
def pre (n k : Nat) : List (BitVec 8) := (0x80 :: List.replicate (zeros n) 0) ++ lens n k
theorem pre_length (n k : Nat) : (pre n k).length = 1 + zeros n + k := by simp [pre, lens_length]; omega
theorem pre_succ (n k : Nat) : pre n k ++ [len1 n (7 - k)] = pre n (k + 1) := by simp [pre, lens]
theorem pre_full (n : Nat) : pre n 8 = pad n := rfl
theorem len1_n8 (n i : Nat) (h : n ≤ 100000000) : (n : Int) * 8 / 2 ^ (8 * i) % 256 = n8 (len1 n i) := by
  unfold len1 n8
  rw [BitVec.toNat_setWidth, BitVec.toNat_ushiftRight, BitVec.toNat_mul, BitVec.toNat_ofNat, Nat.shiftRight_eq_div_pow]
  have : (8 : BitVec 64).toNat = 8 := rfl
  rw [this, Nat.mod_eq_of_lt (show n < 2 ^ 64 by omega), Nat.mod_eq_of_lt (show n * 8 < 2 ^ 64 by omega)]
  simp
theorem hcell_head (H : Nat → BitVec 32) (A : Option Addr) (l c n : Nat) : (Array.ofFn fun i : Fin 8 => hcell H A l c n i) = Array.ofFn fun i : Fin 8 => by32 (H i) :=
  ofFn_head _ H (fun j hj => if_pos hj)
theorem zeros_lt (n : Nat) : zeros n < 64 := by unfold zeros; omega

end Go.Proofs.Ytjdodhooojjldaa
