/- Signatures, walked: Verify. -/
import Derived.Test.YtnhpkpopfdfohaaGreatDvSgnB
import Derived.Test.YtnhpkpopfdfohaaGreatDvFreeN
namespace Go.Proofs.YtnhpkpopfdfohaaGreat
set_option linter.unusedSimpArgs false
set_option linter.unusedVariables false
open Go.RowKit
open Nt Sha
attribute [local go_sem] steady steadyUpon Cls same_cell anyW
attribute [local irreducible] wpHead wpTree wpHeadR sum chalOf
def drawN (Q x : Nat) (msg : List (BitVec 8)) : Nat := ofB (Mac.expand (toB x (byteSz Q)) msg 64) % Q
def nz1 (d : Nat) : Nat := if d = 0 then 1 else d
def sgnK (Q x : Nat) (msg : List (BitVec 8)) : Nat := nz1 (drawN Q x msg)
def sgnC (P Q G x : Nat) (msg : List (BitVec 8)) : Nat := chalOf [sgnB, memBy P Q (G ^ sgnK Q x msg % P), memBy P Q (G ^ x % P), msg] Q
def sgnS (P Q G x : Nat) (msg : List (BitVec 8)) : Nat := (sgnK Q x msg + sgnC P Q G x msg * x % Q) % Q
def signB (P Q G x : Nat) (msg : List (BitVec 8)) : List (BitVec 8) := toB (sgnC P Q G x msg) (byteSz Q) ++ toB (sgnS P Q G x msg) (byteSz Q)
section
variable (gr P Q G H k : Nat) (w : World)
end
end Go.Proofs.YtnhpkpopfdfohaaGreat
namespace Go.Proofs.YtnhpkpopfdfohaaGreat
set_option linter.unusedSimpArgs false
set_option linter.unusedVariables false
open Go.RowKit
open Nt Sha
attribute [local go_sem] steady steadyUpon Cls same_cell anyW
attribute [local irreducible] wpHead wpTree wpHeadR sum chalOf
theorem prodE_two (a b x y : Nat) : prodE [a, b] [x, y] 2 = a ^ x * b ^ y := by simp [prodE, gat]
def verB (P Q G y : Nat) (msg sig : List (BitVec 8)) : Bool :=
  decide (sig.length = 2 * byteSz Q) && (memB P Q y && (decide (ofB (sig.take (byteSz Q)) < Q) && (decide (ofB (sig.drop (byteSz Q)) < Q) &&
    decide (chalOf [sgnB, memBy P Q (G ^ ofB (sig.drop (byteSz Q)) * y ^ (Q - ofB (sig.take (byteSz Q))) % P), memBy P Q y, msg] Q = ofB (sig.take (byteSz Q))))))
theorem cmpI_eq0 (x y : Nat) : (cmpI x y == 0) = decide (x = y) := by
  unfold cmpI
  by_cases h : x < y
  · rw [if_pos h, decide_eq_false (by omega)]; rfl
  · rw [if_neg h]
    by_cases h2 : x = y
    · rw [decide_eq_true h2, if_pos h2]; rfl
    · rw [decide_eq_false h2, if_neg h2]; rfl
theorem fit_bs128 {k n : Nat} {bs : List (BitVec 8)} (h : bs.length ≤ n) (hk : n ≤ 4 * k) : Fit k (ofB bs) := by
  have h1 := ofB_lt bs
  unfold Fit
  refine Nat.lt_of_lt_of_le h1 ?_
  rw [show (256 : Nat) = 2 ^ 8 by decide, show W32 = 2 ^ 32 by decide, ← Nat.pow_mul, ← Nat.pow_mul]
  exact Nat.pow_le_pow_right (by omega) (by omega)
section
variable (gr P Q G H k : Nat) (w : World)
end
end Go.Proofs.YtnhpkpopfdfohaaGreat
