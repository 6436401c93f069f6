/- The law on the order of numbers: all cases. -/
import Derived.Test.YtekpjdfgpggcnaaLawO
import Derived.Test.YtekpjdfgpggcnaaLawO2
import Derived.Test.YtekpjdfgpggcnaaLawO3
namespace Go.Proofs.Ytekpjdfgpggcnaa
set_option linter.unusedSimpArgs false
set_option linter.unusedVariables false
open Go.RowKit
open Nt

theorem cmp_neg {x y : Nat} : cmpI y x = -cmpI x y := by
  unfold cmpI
  rcases Nat.lt_trichotomy x y with h | h | h
  · rw [if_neg (by omega), if_neg (by omega), if_pos h]; rfl
  · rw [if_neg (by omega), if_pos h.symm, if_neg (by omega), if_pos h]; rfl
  · rw [if_pos h, if_neg (by omega), if_neg (by omega)]
theorem cmp_bd {x y : Nat} : -1 ≤ cmpI x y ∧ cmpI x y ≤ 1 := by
  unfold cmpI
  split
  · omega
  · split <;> omega
theorem cmp_eq0 {x y : Nat} : decide (toB x (bytelen x) = toB y (bytelen y)) = (cmpI x y == 0) := by
  rw [toB_eq, Bool.eq_iff_iff, decide_eq_true_eq, beq_iff_eq]
  unfold cmpI
  by_cases h1 : x < y
  · rw [if_pos h1]; omega
  · rw [if_neg h1]
    by_cases h2 : x = y
    · rw [if_pos h2]; simp [h2]
    · rw [if_neg h2]; omega
theorem cmp_pos {x y : Nat} : (0 < cmpI x y) ↔ y < x := by
  unfold cmpI
  by_cases h1 : x < y
  · rw [if_pos h1]; omega
  · rw [if_neg h1]
    by_cases h2 : x = y
    · rw [if_pos h2]; omega
    · rw [if_neg h2]; omega
theorem norders_any (A B D : Option Addr) (n c m d q r : Nat) (bs cs ds : List (BitVec 8)) (w : World) (h1 : In8 w A n c bs) (h2 : In8 w B m d cs) (h3 : In8 w D q r ds) :
    Calls Try.prog 9 #[.slice A n c, .slice B m d, .slice D q r] w fun e w' => e = .returned (.bool true) ∧ Ext w w' := by
  obtain ⟨x, hFx, N1, -⟩ := in_num h1
  obtain ⟨y, hFy, N2, -⟩ := in_num h2
  obtain ⟨z, hFz, N3, -⟩ := in_num h3
  have hb := cmp_bd (x := x) (y := y)
  by_cases hs : 0 < cmpI x y
  · rcases Nat.eq_zero_or_pos z with hz | hz
    · exact norders_gz A B D n c m d q r x y z _ 0 0 w hFx hFy hFz N1 N2 N3 (hide rfl) (hide cmp_neg) hb.1 hb.2 (hide cmp_eq0) (hide (decide_eq_true hz)) hs
    · exact norders_gn A B D n c m d q r x y z _ 0 0 w hFx hFy hFz N1 N2 N3 (hide rfl) (hide cmp_neg) hb.1 hb.2 (hide cmp_eq0) (hide (decide_eq_false (by omega))) (hide hz) hs
  · by_cases hyz : z < y
    · rcases Nat.eq_zero_or_pos z with hz | hz
      · exact norders_yz A B D n c m d q r x y z _ 0 0 w hFx hFy hFz N1 N2 N3 (hide rfl) (hide cmp_neg) hb.1 hb.2 (hide cmp_eq0) (hide (decide_eq_true hz)) hs (hide (cmpI_gt hyz))
      · exact norders_yn A B D n c m d q r x y z _ 0 0 w hFx hFy hFz N1 N2 N3 (hide rfl) (hide cmp_neg) hb.1 hb.2 (hide cmp_eq0) (hide (decide_eq_false (by omega))) (hide hz) hs (hide (cmpI_gt hyz))
    · have hn2 : ¬ 0 < cmpI y z := by rw [cmp_pos]; exact hyz
      have hn3 : cmpI x z ≤ 0 := by
        have h4 : ¬ 0 < cmpI x z := by rw [cmp_pos]; rw [cmp_pos] at hs; omega
        omega
      rcases Nat.eq_zero_or_pos z with hz | hz
      · exact norders_zz A B D n c m d q r x y z _ _ _ w hFx hFy hFz N1 N2 N3 (hide rfl) (hide cmp_neg) hb.1 hb.2 (hide cmp_eq0) (hide (decide_eq_true hz)) hs (hide rfl) hn2 (hide rfl) hn3
      · exact norders_zn A B D n c m d q r x y z _ _ _ w hFx hFy hFz N1 N2 N3 (hide rfl) (hide cmp_neg) hb.1 hb.2 (hide cmp_eq0) (hide (decide_eq_false (by omega))) (hide hz) hs (hide rfl) hn2 (hide rfl) hn3
end Go.Proofs.Ytekpjdfgpggcnaa
