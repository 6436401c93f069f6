/- Powers in rings, walked: Exp with a long exponent, by a table of sixteen powers. -/
import Derived.Test.YtjdodhooojjldaaMods
namespace Go.Proofs.Ytjdodhooojjldaa
set_option linter.unusedSimpArgs false
set_option linter.unusedVariables false
open Go.RowKit
open Nt
attribute [local go_sem] steady steadyUpon Cls same_cell
attribute [local irreducible] wpHead wpTree
/-- where a table's number lies -/
abbrev SvF := Nat → Option Addr × Nat × Nat
def sv (f : SvF) (j : Nat) : Value := .slice (f j).1 (f j).2.1 (f j).2.2
theorem sv_put (f : SvF) (i : Nat) (A : Option Addr) (l c : Nat) : put1 (sv f) i (.slice A l c) = sv (put1 f i (A, l, c)) := by
  funext j
  unfold put1 sv
  by_cases h : j = i
  · subst h; simp
  · simp [h]
theorem sv_same (f : SvF) (i : Nat) (A : Option Addr) (l c : Nat) : sv (put1 f i (A, l, c)) i = .slice A l c := by unfold sv put1; simp
theorem sv_other (f : SvF) (i j : Nat) (x : Option Addr × Nat × Nat) (h : j ≠ i) : sv (put1 f i x) j = sv f j := by unfold sv put1; rw [if_neg h]
/-- a number lies elsewhere than in a table of slices -/
theorem NatV.onlyArr {w w' : World} {v : Value} {n G m : Nat} {t : TypeId} {f : SvF} (h : NatV w v n) (hA : Arr w G t m (sv f)) (hU : Upd (Go.Proofs.Ytjdodhooojjldaa.only G) w w') : NatV w' v n := by
  obtain ⟨s, h0, A, c, xs, h1, h2, h3, h4, h5⟩ := h
  refine ⟨s, h0, A, c, xs, h1, h2, h3, (fun i hi => ?_), h5⟩
  obtain ⟨b, o, e, hc⟩ := h4 i hi
  refine ⟨b, o, e, ?_⟩
  rw [← hc]
  refine hU.cell (p := ⟨b, o + i, none⟩) (World.block_lt_of_cell? w _ hc) (fun ht => ?_)
  have ht' : b = G := ht
  subst ht'
  unfold Arr at hA
  simp only [World.cell?, hA] at hc
  rcases Nat.lt_or_ge (o + i) m with hm | hm
  · simp [sv, by32, hm] at hc
  · rw [Array.getElem?_eq_none (by simp; omega)] at hc; cases hc
theorem four_bits (b Q : Nat) : b / 2 ^ Q % 16 = b / 2 ^ Q % 2 + 2 * (b / 2 ^ (Q + 1) % 2) + 4 * (b / 2 ^ (Q + 2) % 2) + 8 * (b / 2 ^ (Q + 3) % 2) := by
  rw [Nat.pow_add, Nat.pow_add, Nat.pow_add, ← Nat.div_div_eq_div_mul, ← Nat.div_div_eq_div_mul, ← Nat.div_div_eq_div_mul]
  generalize b / 2 ^ Q = c
  omega
theorem four_down (b i : Nat) : b / 2 ^ (4 * i) = b / 2 ^ (4 * (i + 1)) * 16 + b / 2 ^ (4 * i) % 16 := by
  rw [show 4 * (i + 1) = 4 * i + 4 by omega, Nat.pow_add, ← Nat.div_div_eq_div_mul]
  generalize b / 2 ^ (4 * i) = c
  omega
end Go.Proofs.Ytjdodhooojjldaa
