/- The laws of certificates: the chapter's example lives; CertSmalls, walked. -/
import Derived.Test.YtoekbomfepedcaaCertD
namespace Go.Proofs.Ytoekbomfepedcaa
set_option linter.unusedSimpArgs false
set_option linter.unusedVariables false
open Go.RowKit
open Nt Pk
attribute [local go_sem] steady steadyUpon Cls same_cell anyW
attribute [local irreducible] wpHead wpTree wpHeadR
def exPs : List Nat := [2, 167, 499]
theorem ex_v2 : vpow 166666 2 = 2 := by rw [vpow_yes (by omega) (by omega) (by decide), vpow_no (by decide)]
theorem ex_v167 : vpow 166666 167 = 167 := by rw [vpow_yes (by omega) (by omega) (by decide), vpow_no (by decide)]
theorem ex_v499 : vpow 166666 499 = 499 := by rw [vpow_yes (by omega) (by omega) (by decide), vpow_no (by decide)]
theorem ex_fac : facF 166667 exPs = 166666 := by
  unfold facF exPs
  simp only [List.map_cons, List.map_nil, show 166667 - 1 = 166666 from rfl, ex_v2, ex_v167, ex_v499, prodL]
theorem ex_pow : 2 ^ (166667 - 1) % 166667 = 1 := by decide +kernel
theorem ex_ok0 : okP 166667 2 exPs [] 0 = true := by decide +kernel
theorem ex_ok1 : okP 166667 2 exPs [] 1 = true := by decide +kernel
theorem ex_ok2 : okP 166667 2 exPs [] 2 = true := by decide +kernel
theorem ex_holds : holdsB 166667 2 exPs [] = true := by
  rw [holds_yes (by omega) (by decide) ex_pow (fun i hi => ?_), ex_fac]
  · decide
  · match i, hi with
    | 0, _ => exact ex_ok0
    | 1, _ => exact ex_ok1
    | 2, _ => exact ex_ok2
    | k + 3, h => exact absurd h (by simp [exPs])
theorem cu64_in {x : Int} (h : (Lit.int .u64 x).wf = true) : ∃ N : Nat, x = (N : Int) ∧ N < 18446744073709551616 := by
  have hb : 0 ≤ x ∧ x ≤ 18446744073709551615 := by
    simpa [Lit.wf, IntKind.min, IntKind.max, IntKind.signed, IntKind.bits] using h
  obtain ⟨k, rfl⟩ := Int.eq_ofNat_of_zero_le hb.1
  exact ⟨k, rfl, by omega⟩
theorem fit2 {n : Nat} (h : n < 18446744073709551616) : Fit 2 n := h
/-- how many numbers from 1 to k divide n -/
def divC (n : Nat) : Nat → Nat
  | 0 => 0
  | k + 1 => divC n k + if n % (k + 1) = 0 then 1 else 0
theorem divC_le (n k : Nat) : divC n k ≤ k := by
  induction k with
  | zero => exact Nat.le_refl _
  | succ k ih => unfold divC; split <;> omega
theorem divC_one (n : Nat) : ∀ k, 1 ≤ k → 1 ≤ divC n k ∧ (divC n k = 1 ↔ ∀ d, 2 ≤ d → d ≤ k → n % d ≠ 0)
  | 0, h => absurd h (by omega)
  | 1, _ => by
    have h1 : divC n 1 = 1 := by unfold divC divC; rw [if_pos (Nat.mod_one n)]
    rw [h1]
    exact ⟨Nat.le_refl _, ⟨fun _ d h1 h2 => by omega, fun _ => rfl⟩⟩
  | k + 2, _ => by
    obtain ⟨h1, h2⟩ := divC_one n (k + 1) (by omega)
    have e : divC n (k + 2) = divC n (k + 1) + if n % (k + 2) = 0 then 1 else 0 := rfl
    rw [e]
    by_cases h : n % (k + 2) = 0
    · rw [if_pos h]
      exact ⟨by omega, ⟨fun h3 => by omega, fun h3 => absurd h (h3 (k + 2) (by omega) (Nat.le_refl _))⟩⟩
    · rw [if_neg h, Nat.add_zero]
      refine ⟨h1, h2.trans ⟨fun h3 d hd hk => ?_, fun h3 d hd hk => h3 d hd (by omega)⟩⟩
      by_cases hd2 : d = k + 2
      · subst hd2; exact h
      · exact h3 d hd (by omega)
theorem small_divC {n : Nat} (h : n < 65536) : smallB n = decide (divC n n = 2) := by
  rcases n with _ | _ | n
  · decide +kernel
  · decide +kernel
  · have e : divC (n + 2) (n + 2) = divC (n + 2) (n + 1) + 1 := by
      show divC (n + 2) (n + 1) + (if (n + 2) % (n + 2) = 0 then 1 else 0) = _
      rw [if_pos (Nat.mod_self _)]
    obtain ⟨h1, h2⟩ := divC_one (n + 2) (n + 1) (by omega)
    have h3 : smallB (n + 2) = true ↔ divC (n + 2) (n + 2) = 2 := by
      rw [e, smallB_iff]
      refine ⟨fun ⟨_, _, h4⟩ => ?_, fun h4 => ⟨by omega, h, fun d hd hdd => ?_⟩⟩
      · have hp := pr_of_small (by omega) h4
        have : divC (n + 2) (n + 1) = 1 := h2.2 fun d hd hk h0 => by
          rcases hp.2 d (Nat.dvd_of_mod_eq_zero h0) with h5 | h5 <;> omega
        omega
      · refine h2.1 (by omega) d hd ?_
        have h5 := Nat.mul_le_mul_right d hd
        omega
    cases hs : smallB (n + 2) with
    | true => exact (decide_eq_true (h3.1 hs)).symm
    | false => exact (decide_eq_false fun h4 => by rw [h3.2 h4] at hs; cases hs).symm
end Go.Proofs.Ytoekbomfepedcaa
