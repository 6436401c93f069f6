/- Products of powers, plainly. -/
import Derived.Test.YtoekbomfepedcaaGrpA
namespace Go.Proofs.Ytoekbomfepedcaa
set_option linter.unusedSimpArgs false
set_option linter.unusedVariables false
open Go.RowKit
open Nt
/-- the product of the first n bases, each to its exponent's bits from s on -/
def prodS (bs es : List Nat) (s : Nat) : Nat → Nat
  | 0 => 1
  | n + 1 => prodS bs es s n * gat bs n ^ (gat es n / 2 ^ s)
/-- the product of those of the first n bases whose exponent has bit s -/
def bitsP (bs es : List Nat) (s : Nat) : Nat → Nat
  | 0 => 1
  | n + 1 => bitsP bs es s n * (if gat es n / 2 ^ s % 2 = 1 then gat bs n else 1)
theorem prodS_step (bs es : List Nat) (s : Nat) : ∀ n, prodS bs es s n = prodS bs es (s + 1) n * prodS bs es (s + 1) n * bitsP bs es s n
  | 0 => by simp [prodS, bitsP]
  | n + 1 => by
    unfold prodS bitsP
    rw [prodS_step bs es s n]
    obtain ⟨q, hq⟩ : ∃ q, q = gat es n / 2 ^ (s + 1) := ⟨_, rfl⟩
    have h1 : gat es n / 2 ^ s = 2 * q + gat es n / 2 ^ s % 2 := by
      rw [hq, Nat.pow_succ, ← Nat.div_div_eq_div_mul]; omega
    have key : ∀ (b e q : Nat), e = 2 * q + e % 2 → b ^ e = b ^ q * b ^ q * (if e % 2 = 1 then b else 1) := fun b e q h => by
      have h2 : b ^ e = b ^ (2 * q + e % 2) := by rw [← h]
      rw [h2, Nat.pow_add, Nat.two_mul, Nat.pow_add]
      rcases Nat.mod_two_eq_zero_or_one e with h | h
      · rw [h]; simp
      · rw [h]; simp
    rw [key (gat bs n) (gat es n / 2 ^ s) q h1, ← hq]
    simp only [Nat.mul_comm, Nat.mul_left_comm, Nat.mul_assoc]
theorem prodS_top (bs es : List Nat) (s : Nat) : ∀ n, (∀ k, k < n → blen (gat es k) ≤ s) → prodS bs es s n = 1
  | 0, _ => rfl
  | n + 1, h => by
    unfold prodS
    have hs := h n (by omega)
    have h0 : gat es n / 2 ^ s = 0 := Nat.div_eq_of_lt (Nat.lt_of_lt_of_le (blen_lt _) (Nat.pow_le_pow_right (by omega) hs))
    rw [prodS_top bs es s n (fun k hk => h k (by omega)), h0, Nat.pow_zero]
/-- the product of all powers, one behind the other -/
def prodE (bs es : List Nat) : Nat → Nat
  | 0 => 1
  | n + 1 => prodE bs es n * gat bs n ^ gat es n
theorem prodS_zero (bs es : List Nat) : ∀ n, prodS bs es 0 n = prodE bs es n
  | 0 => rfl
  | n + 1 => by unfold prodS prodE; rw [prodS_zero bs es n, Nat.pow_zero, Nat.div_one]
end Go.Proofs.Ytoekbomfepedcaa
