/- A group, plainly. -/
import Derived.Test.YtoekbomfepedcaaCertG
import Derived.Test.YtoekbomfepedcaaMacE
namespace Go.Proofs.Ytoekbomfepedcaa
set_option linter.unusedSimpArgs false
set_option linter.unusedVariables false
open Go.RowKit
open Nt
/-- a power's rest, reckoned bit by bit -/
def fpow (n : Nat) : Nat → Nat → Nat → Nat → Nat
  | 0, _, _, r => r % n
  | f + 1, a, e, r => if e = 0 then r % n else fpow n f (a * a % n) (e / 2) (if e % 2 = 1 then r * a % n else r)
theorem fpow_eq (n : Nat) : ∀ (f a e r : Nat), e < 2 ^ f → fpow n f a e r = r * a ^ e % n
  | 0, a, e, r, h => by
    obtain rfl : e = 0 := by omega
    simp [fpow]
  | f + 1, a, e, r, h => by
    unfold fpow
    by_cases h0 : e = 0
    · rw [if_pos h0, h0]; simp
    · rw [if_neg h0, fpow_eq n f _ _ _ (by rw [Nat.pow_succ] at h; omega)]
      have he : e = 2 * (e / 2) + e % 2 := by omega
      have hp : a ^ e = (a * a) ^ (e / 2) * a ^ (e % 2) := by
        conv => lhs; rw [he, Nat.pow_add, Nat.pow_mul, Nat.pow_two]
      rw [hp]
      have hm : ∀ k, (a * a % n) ^ k % n = (a * a) ^ k % n := fun k => by rw [← Nat.pow_mod]
      split
      · rename_i h1
        rw [h1, Nat.pow_one, Nat.mul_mod, hm, Nat.mod_mod, ← Nat.mul_mod]
        congr 1
        simp only [Nat.mul_comm, Nat.mul_left_comm, Nat.mul_assoc]
      · rename_i h1
        have h2 : e % 2 = 0 := by omega
        rw [h2, Nat.pow_zero, Nat.mul_one, Nat.mul_mod, hm, ← Nat.mul_mod]
theorem pow_is {a e n : Nat} (f : Nat) (h : e < 2 ^ f) : a ^ e % n = fpow n f a e 1 := by rw [fpow_eq n f a e 1 h, Nat.one_mul]
/-- is it a member? -/
def memB (P Q a : Nat) : Bool := decide (0 < a) && (decide (a < P) && decide (a ^ Q % P = 1))
def byteSz (P : Nat) : Nat := (blen P + 7) / 8
/-- the c-th try for the second base -/
def hTry (P t : Nat) (sd : List (BitVec 8)) (c : Nat) : Nat := (ofB (Mac.expand (Mac.tag [] sd) [104, BitVec.ofNat 8 c] (byteSz P + 8)) % P) ^ t % P
/-- the first try from c on that is above 1 -/
def hFrom (P t : Nat) (sd : List (BitVec 8)) : Nat → Nat → Option Nat
  | 0, _ => none
  | f + 1, c => if 1 < hTry P t sd c then some (hTry P t sd c) else hFrom P t sd f (c + 1)
def hRes (o : Option Nat) : Int × Nat := match o with | some h => (0, h) | none => (6, 0)
/-- what New answers: an error, and the second base -/
def newG (P Q G : Nat) (sd : List (BitVec 8)) (ss : List St) : Int × Nat :=
  if 1024 < blen P ∨ 1024 < blen Q ∨ 1024 < blen G ∨ 128 < sd.length then (4, 0)
  else if ¬ (primeB P ss = true ∧ primeB Q ss = true) then (8, 0)
  else if (P - 1) % Q ≠ 0 ∨ Q ≤ 64 ∨ G ≤ 1 ∨ P ≤ G then (1, 0)
  else if ¬ memB P Q G = true then (1, 0)
  else hRes (hFrom P ((P - 1) / Q) sd 256 0)
end Go.Proofs.Ytoekbomfepedcaa
