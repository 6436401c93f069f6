/- Small primes and what is known, walked: Small, known, power, long. -/
import Derived.Test.YtjdodhooojjldaaExpL
import Derived.Test.YtjdodhooojjldaaPock
namespace Go.Proofs.Ytjdodhooojjldaa
set_option linter.unusedSimpArgs false
set_option linter.unusedVariables false
open Go.RowKit
open Nt
attribute [local go_sem] steady steadyUpon Cls same_cell
attribute [local irreducible] wpHead wpTree

/-- a prime below 2^16, by trying -/
def smallB (n : Nat) : Bool := decide (2 ≤ n) && (decide (n < 65536) && (List.range 256).all fun d => !(decide (2 ≤ d) && (decide (d * d ≤ n) && decide (n % d = 0))))
theorem smallB_iff {n : Nat} : smallB n = true ↔ 2 ≤ n ∧ n < 65536 ∧ ∀ d, 2 ≤ d → d * d ≤ n → n % d ≠ 0 := by
  unfold smallB
  simp only [Bool.and_eq_true, decide_eq_true_iff, List.all_eq_true, List.mem_range, Bool.not_eq_true', Bool.and_eq_false_iff, decide_eq_false_iff_not]
  have h : ∀ d : Nat, (¬ 2 ≤ d ∨ ¬ d * d ≤ n ∨ ¬ n % d = 0) ↔ (2 ≤ d → d * d ≤ n → n % d ≠ 0) := fun d =>
    ⟨fun h h1 h2 => h.elim (fun h => absurd h1 h) (fun h => h.elim (fun h => absurd h2 h) id), fun h => by
      by_cases h1 : 2 ≤ d
      · by_cases h2 : d * d ≤ n
        · exact .inr (.inr (h h1 h2))
        · exact .inr (.inl h2)
      · exact .inl h1⟩
  simp only [h]
  refine ⟨fun ⟨h1, h2, h3⟩ => ⟨h1, h2, fun d hd hdd => h3 d ?_ hd hdd⟩, fun ⟨h1, h2, h3⟩ => ⟨h1, h2, fun d _ hd hdd => h3 d hd hdd⟩⟩
  refine Nat.lt_of_not_ge fun h => ?_
  have := Nat.mul_le_mul h h
  omega
theorem smallB_pr {n : Nat} (h : smallB n = true) : Pk.Pr n := by
  obtain ⟨h1, -, h3⟩ := smallB_iff.1 h
  exact Pk.pr_of_small h1 h3
theorem smallB_false {n : Nat} (h : n < 2 ∨ 65536 ≤ n) : smallB n = false := by
  cases e : smallB n with
  | false => rfl
  | true => obtain ⟨h1, h2, -⟩ := smallB_iff.1 e; omega
theorem smallB_div {n d : Nat} (h1 : 2 ≤ d) (h2 : d * d ≤ n) (h3 : n % d = 0) : smallB n = false := by
  cases e : smallB n with
  | false => rfl
  | true => exact absurd h3 ((smallB_iff.1 e).2.2 d h1 h2)
end Go.Proofs.Ytjdodhooojjldaa
