/- Two bytes of a tag, in plain numbers. -/
import Derived.Test.YtpffdpieciaooaaTagR
namespace Go.Proofs.Ytpffdpieciaooaa
set_option linter.unusedSimpArgs false
set_option linter.unusedVariables false
open Go.RowKit
open Nt
theorem tacc_lt (r : Nat) (b : List (BitVec 8)) (k : Nat) : tacc r b k < P130 := by
  cases k with
  | zero => exact (by decide +kernel : 0 < P130)
  | succ k => exact Nat.mod_lt _ (by decide +kernel)
theorem tagN_lt {key : List (BitVec 8)} (hk : key.length = 32) (b : List (BitVec 8)) : tagN key b < 2 ^ 131 := by
  unfold tagN
  have h1 := tacc_lt (leN (clamp (key.take 16))) b (chn b.length)
  have h2 := leN_lt (key.drop 16)
  rw [List.length_drop, hk] at h2
  have e1 : P130 < 2 ^ 130 := by decide +kernel
  have e2 : 256 ^ (32 - 16) < 2 ^ 130 := by decide +kernel
  have e3 : (2 : Nat) ^ 131 = 2 ^ 130 + 2 ^ 130 := by decide +kernel
  rw [e3]
  exact Nat.add_lt_add (Nat.lt_trans h1 e1) (Nat.lt_trans h2 e2)
theorem tagOf_leN {key : List (BitVec 8)} (hk : key.length = 32) (b : List (BitVec 8)) : leN (tagOf key b) = tagN key b % 2 ^ 128 := by
  obtain ⟨S, hS⟩ : ∃ S, S = tagN key b := ⟨_, rfl⟩
  have hlt := tagN_lt hk b
  unfold tagOf
  rw [← hS] at hlt ⊢
  have hSl : S < 256 ^ 18 := Nat.lt_trans hlt (by decide +kernel)
  have hl : ((toB S 18).reverse.take 16).length = 16 := by rw [List.length_take, List.length_reverse, toB_length]; rfl
  have e : leN (toB S 18).reverse = S := by unfold leN; rw [List.reverse_reverse]; exact ofB_toB _ _ hSl
  have e2 := leN_append ((toB S 18).reverse.take 16) ((toB S 18).reverse.drop 16)
  rw [List.take_append_drop, e, hl] at e2
  have hlt := leN_lt ((toB S 18).reverse.take 16)
  rw [hl] at hlt
  have e6 : (256 : Nat) ^ 16 = 2 ^ 128 := by decide
  rw [e6] at e2 hlt
  have e7 := congrArg (· % 2 ^ 128) e2
  simp only [Nat.add_mul_mod_self_right] at e7
  rw [Nat.mod_eq_of_lt hlt] at e7
  exact e7.symm
theorem tag_two {key : List (BitVec 8)} (hk : key.length = 32) (b : List (BitVec 8)) : d8 (gat (tagOf key b) 0) + 256 * d8 (gat (tagOf key b) 1) = tagN key b % 65536 := by
  have h := tagOf_leN hk b
  have hl : (tagOf key b).length = 16 := tagOf_length _ _
  rw [leN_vf, hl, show 16 = 2 + 14 from rfl, vf_split] at h
  have h2 : vf 256 (dig d8 (tagOf key b)) 2 = d8 (gat (tagOf key b) 0) + 256 * d8 (gat (tagOf key b) 1) := by
    rw [vf_succ, vf_succ]
    show 0 + d8 (gat (tagOf key b) 0) * 256 ^ 0 + d8 (gat (tagOf key b) 1) * 256 ^ 1 = _
    omega
  rw [h2] at h
  have a0 := d8_lt (gat (tagOf key b) 0)
  have a1 := d8_lt (gat (tagOf key b) 1)
  have h3 := congrArg (· % 65536) h
  rw [Nat.mod_mod_of_dvd _ (by decide +kernel), show (256 : Nat) ^ 2 = 65536 from rfl, Nat.add_mul_mod_self_right, Nat.mod_eq_of_lt (by omega)] at h3
  exact h3
theorem z16_clamp (r : BitVec 8) : clamp (z16.set 0 r) = z16.set 0 r := by revert r; decide +kernel
theorem z16_leN (r : BitVec 8) : leN (z16.set 0 r) = d8 r := by revert r; decide +kernel
theorem one_leN (x : BitVec 8) : leN ([x] ++ [1]) = d8 x + 256 := by revert x; decide +kernel
theorem tag_one (r x : BitVec 8) (s : List (BitVec 8)) : tagN (z16.set 0 r ++ s) [x] = (d8 x + 256) * d8 r + leN s := by
  have hl : (z16.set 0 r).length = 16 := by rw [List.length_set]; rfl
  unfold tagN
  rw [List.take_left' hl, List.drop_left' hl, z16_clamp, z16_leN]
  rw [show chn [x].length = 1 by simp [chn]]
  unfold tacc
  rw [show (List.drop (16 * 0) [x]).take 16 = [x] from rfl, show tacc (d8 r) [x] 0 = 0 from rfl]
  have h1 := d8_lt x
  have h2 := d8_lt r
  have h3 : (d8 x + 256) * d8 r ≤ 512 * 256 := Nat.mul_le_mul (by omega) (by omega)
  rw [one_leN, Nat.zero_add, Nat.mod_eq_of_lt (Nat.lt_of_le_of_lt h3 (by decide +kernel))]
/-- the difference of two tags of one byte each -/
theorem tag_diff (r x y : BitVec 8) (s : List (BitVec 8)) (hs : s.length = 16) :
    (n8 (gat (tagOf (z16.set 0 r ++ s) [x]) 0) + 256 * n8 (gat (tagOf (z16.set 0 r ++ s) [x]) 1) - n8 (gat (tagOf (z16.set 0 r ++ s) [y]) 0) - 256 * n8 (gat (tagOf (z16.set 0 r ++ s) [y]) 1) - n8 r * (n8 x - n8 y)).tmod 65536 = 0 := by
  have hk : (z16.set 0 r ++ s).length = 32 := by rw [List.length_append, List.length_set, hs]; rfl
  have h1 := tag_two hk [x]
  have h2 := tag_two hk [y]
  rw [tag_one] at h1 h2
  simp only [n8_d]
  generalize d8 (gat (tagOf (z16.set 0 r ++ s) [x]) 0) = a0 at *
  generalize d8 (gat (tagOf (z16.set 0 r ++ s) [x]) 1) = a1 at *
  generalize d8 (gat (tagOf (z16.set 0 r ++ s) [y]) 0) = b0 at *
  generalize d8 (gat (tagOf (z16.set 0 r ++ s) [y]) 1) = b1 at *
  generalize leN s = L at *
  generalize d8 r = R at *
  generalize d8 x = X at *
  generalize d8 y = Y at *
  clear hk hs
  refine Int.tmod_eq_zero_of_dvd ?_
  rw [Int.mul_sub]
  rw [Nat.add_mul] at h1 h2
  have e1 : (R : Int) * X = ((X * R : Nat) : Int) := by rw [Nat.mul_comm]; push_cast; rfl
  have e2 : (R : Int) * Y = ((Y * R : Nat) : Int) := by rw [Nat.mul_comm]; push_cast; rfl
  rw [e1, e2]
  generalize X * R = U at *
  generalize Y * R = V at *
  omega
end Go.Proofs.Ytpffdpieciaooaa
