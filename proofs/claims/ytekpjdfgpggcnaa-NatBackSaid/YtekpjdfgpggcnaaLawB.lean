/- Words for the laws on numbers. -/
import Derived.Test.YtekpjdfgpggcnaaLawA
namespace Go.Proofs.Ytekpjdfgpggcnaa
set_option linter.unusedSimpArgs false
set_option linter.unusedVariables false
open Go.RowKit
open Nt

theorem name_c {P : Program} {K : Nat} {args : Array Value} {Q : Ending → World → Prop} {W : World} (h : ∀ W', W' = W → Calls P K args W' Q) : Calls P K args W Q := h W rfl
/-- what the helpers make of bytes that came in -/
theorem in_num {A : Option Addr} {n c : Nat} {bs : List (BitVec 8)} {w : World} (h : In8 w A n c bs) : ∃ x, Fit 12 x ∧ Hid (∀ w', Ext w w' → Calls Try.prog 19 #[.slice A n c] w' (RetN w' x)) ∧ Hid (∀ w', Ext w w' → Calls Try.prog 20 #[.slice A n c] w' (RetR w' x)) :=
  ⟨_, fit_48 bs, hide fun w' hu => num_any A n c bs w' (h.ext hu), hide fun w' hu => ref_any A n c bs w' (h.ext hu)⟩
theorem sub_yes (va vb : Value) (a b k : Nat) (w : World) (hVa : NatV w va a) (hVb : NatV w vb b) (hFa : Fit k a) (hFb : Fit k b) (hk : k ≤ 1000000) (h : b ≤ a) :
    Calls Try.prog 37 #[va, vb] w (RetO w (a - b) true) := by
  have := sub_any va vb a b k w hVa hVb hFa hFb hk
  rwa [if_neg (by omega)] at this
theorem sub_no (va vb : Value) (a b k : Nat) (w : World) (hVa : NatV w va a) (hVb : NatV w vb b) (hFa : Fit k a) (hFb : Fit k b) (hk : k ≤ 1000000) (h : a < b) :
    Calls Try.prog 37 #[va, vb] w (RetO w 0 false) := by
  have := sub_any va vb a b k w hVa hVb hFa hFb hk
  rwa [if_pos h] at this
theorem cmpI_ge {a b : Nat} (h : b ≤ a) : 0 ≤ cmpI a b := by
  rcases Int.lt_or_le (cmpI a b) 0 with h1 | h1
  · rw [cmpI_neg] at h1; omega
  · exact h1
theorem cmpI_lt {a b : Nat} (h : a < b) : cmpI a b = -1 := by unfold cmpI; rw [if_pos h]
theorem cmpI_eq {a : Nat} : cmpI a a = 0 := by unfold cmpI; rw [if_neg (Nat.lt_irrefl a), if_pos rfl]
theorem cmpI_gt {a b : Nat} (h : b < a) : cmpI a b = 1 := by unfold cmpI; rw [if_neg (by omega), if_neg (by omega)]
theorem cmp_shift {x y z : Nat} : cmpI (x + z) (y + z) = cmpI x y := by
  unfold cmpI
  by_cases h1 : x < y
  · rw [if_pos h1, if_pos (by omega)]
  · rw [if_neg h1, if_neg (by omega)]
    by_cases h2 : x = y
    · rw [if_pos h2, if_pos (by omega)]
    · rw [if_neg h2, if_neg (by omega)]
theorem cmp_scale {x y z : Nat} (hz : 0 < z) : cmpI (x * z) (y * z) = cmpI x y := by
  unfold cmpI
  by_cases h1 : x < y
  · rw [if_pos h1, if_pos (Nat.mul_lt_mul_of_pos_right h1 hz)]
  · rw [if_neg h1, if_neg (by have := Nat.mul_le_mul_right z (show y ≤ x by omega); omega)]
    by_cases h2 : x = y
    · rw [if_pos h2, if_pos (by rw [h2])]
    · rw [if_neg h2, if_neg (by have := Nat.mul_lt_mul_of_pos_right (show y < x by omega) hz; omega)]
end Go.Proofs.Ytekpjdfgpggcnaa
