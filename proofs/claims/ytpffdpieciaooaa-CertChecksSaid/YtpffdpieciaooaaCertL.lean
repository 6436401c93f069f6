/- Fronts of a chain: the plain law. -/
import Derived.Test.YtpffdpieciaooaaCertP
import Derived.Test.YtpffdpieciaooaaCertH
namespace Go.Proofs.Ytpffdpieciaooaa
set_option linter.unusedSimpArgs false
set_option linter.unusedVariables false
open Go.RowKit
open Nt Pk
theorem holdAll_app : ∀ (xs : List St) (bs : List Nat) (ys : List St), holdAll bs (xs ++ ys) = (holdAll bs xs && holdAll (bs ++ xs.map St.N) ys)
  | [], bs, ys => by simp [holdAll]
  | x :: xs, bs, ys => by
    show (holdsB x.N x.b x.ps bs && holdAll (bs ++ [x.N]) (xs ++ ys)) = _
    rw [holdAll_app xs]
    simp [holdAll, Bool.and_assoc]
theorem checkE_zero {ss : List St} : checkE ss = 0 ↔ ss.length ≤ 64 ∧ ss.any longB = false ∧ holdAll [] ss = true := by
  unfold checkE
  split
  · rename_i h
    refine ⟨fun e => absurd e (by decide), fun ⟨h1, h2, _⟩ => ?_⟩
    rcases h with h | h
    · omega
    · rw [h2] at h; exact absurd h (by decide)
  · rename_i h
    have h1 : ¬ 64 < ss.length := fun e => h (.inl e)
    have h2 : ss.any longB = false := by
      cases e : ss.any longB with
      | false => rfl
      | true => exact absurd (.inr e) h
    split
    · rename_i h3
      exact ⟨fun _ => ⟨by omega, h2, h3⟩, fun _ => rfl⟩
    · rename_i h3
      exact ⟨fun e => absurd e (by decide), fun ⟨_, _, e⟩ => absurd e h3⟩
/-- a front of a chain that stands, stands -/
theorem checkE_take {ss : List St} (h : checkE ss = 0) (k : Nat) : checkE (ss.take k) = 0 := by
  obtain ⟨h1, h2, h3⟩ := checkE_zero.1 h
  rw [checkE_zero]
  refine ⟨by rw [List.length_take]; omega, ?_, ?_⟩
  · rw [← List.take_append_drop k ss, List.any_append, Bool.or_eq_false_iff] at h2
    exact h2.1
  · rw [← List.take_append_drop k ss, holdAll_app, Bool.and_eq_true] at h3
    exact h3.1
/-- a step that does not hold where it stands breaks the chain -/
theorem checkE_bad {ss : List St} {s : St} {k : Nat} (hl : ss.length ≤ 8) (hno : ss.any longB = false) (hs : longB s = false) (hb : holdsB s.N s.b s.ps ((ss.take k).map St.N) = false) : checkE (ss.take k ++ [s] ++ ss.drop k) = 8 := by
  have h2 : ¬ (64 < (ss.take k ++ [s] ++ ss.drop k).length ∨ (ss.take k ++ [s] ++ ss.drop k).any longB = true) := by
    rw [← List.take_append_drop k ss, List.any_append, Bool.or_eq_false_iff] at hno
    rintro (h | h)
    · simp at h; omega
    · rw [List.any_append, List.any_append, hno.1, hno.2] at h
      simp [hs] at h
  have h3 : ¬ holdAll [] (ss.take k ++ [s] ++ ss.drop k) = true := by
    rw [List.append_assoc, holdAll_app, Bool.and_eq_true]
    rintro ⟨-, h⟩
    have : holdAll ([] ++ (ss.take k).map St.N) ([s] ++ ss.drop k) = (holdsB s.N s.b s.ps ([] ++ (ss.take k).map St.N) && holdAll (([] ++ (ss.take k).map St.N) ++ [s.N]) (ss.drop k)) := rfl
    rw [this, List.nil_append, hb, Bool.false_and] at h
    exact absurd h (by decide)
  unfold checkE
  rw [if_neg h2, if_neg h3]
theorem blen_w64 {n : Nat} (h : W64 n) : ¬ 1024 < blen n := by
  have : blen n ≤ 64 := blen_le_iff.2 (by unfold W64 at h; omega)
  omega
theorem longB_no {s : St} (hN : W64 s.N) (hb : W64 s.b) (hp : ∀ j, j < s.ps.length → W64 (gat s.ps j)) : longB s = false := by
  have h3 : (s.ps.any fun p => decide (1024 < blen p)) = false := by
    rw [List.any_eq_false]
    intro p hm
    obtain ⟨j, hj, rfl⟩ := List.getElem_of_mem hm
    have := blen_w64 (hp j hj)
    rw [gat_lt hj] at this
    simpa using this
  unfold longB
  rw [h3, decide_eq_false (blen_w64 hN), decide_eq_false (blen_w64 hb)]
  rfl
/-- the long step: 2 to the 2016 as its base -/
theorem checkE_long {s : St} (h : 1024 < blen s.b) : checkE [s] = 4 := by
  unfold checkE
  rw [if_pos (.inr (by simp [longB, h]))]
end Go.Proofs.Ytpffdpieciaooaa
