/- The law on scars, walked. -/
import Derived.Test.YtejjofjhcgdedaaSlbL
namespace Go.Proofs.Ytejjofjhcgdedaa
set_option linter.unusedSimpArgs false
set_option linter.unusedVariables false
open Go.RowKit
open Sha
attribute [local go_sem] steady steadyUpon Cls same_cell anyW by8 str_eq
attribute [local irreducible] wpHead wpTree wpHeadR
theorem u64_mod16 (z : Int) : ∃ K : Nat, (IntKind.u64.wrap z).tmod 16 = (K : Int) ∧ K < 16 := by
  have hw0 : 0 ≤ IntKind.u64.wrap z := by
    unfold IntKind.wrap
    simp [IntKind.signed, IntKind.bits]
    omega
  rw [Int.tmod_eq_emod_of_nonneg hw0]
  exact ⟨(IntKind.u64.wrap z % 16).toNat, by omega, by omega⟩
theorem soinked (w0 : World) (g gl : Nat) (x : Slv) (w : World) (h : SlO w0 w g gl x) (h0 : (inkedK x x.secs.length).length = 0) :
    Calls Try.prog 15 #[.pointer (some ⟨g, 0, none⟩)] w (RetInked w 0) := by
  obtain ⟨⟨D, f, hS0⟩, hE⟩ := h
  have := sinked_any _ D g gl f x w hS0
  rwa [h0] at this
/-! ### plainly -/
def scX (p q : Nat) (x y : B8) : Slv := (((((Slv.new 16).inked p (pl64 x)).inked q (pl64 x)).burnt).inked p (pl64 y))
theorem sc_plain {p q : Nat} (hp : p < 16) (hq : q < 16) (x y : B8) : ((Slv.new 16).inked p (pl64 x)).fit 1 ∧ (((Slv.new 16).inked p (pl64 x)).inked q (pl64 x)).fit 2 ∧ ((((Slv.new 16).inked p (pl64 x)).inked q (pl64 x)).burnt).fit 18 ∧
    (scX p q x y).secs.length = 16 ∧ gat (scX p q x y).secs p = (some (pl64 x), some (pl64 y)) ∧ (q ≠ p → gat (scX p q x y).secs q = (some (pl64 x), none)) := by
  have hl0 : (Slv.new 16).secs.length = 16 := by simp [Slv.new]
  have e0 : (Slv.new 16).endless = true := rfl
  obtain ⟨e1, s1⟩ := Slv.inked_endless e0 (n := p) (by omega) (pl64_len x)
  have f1 := Slv.inked_fit (Slv.new_fit 16) (p : Int) (pl64 x)
  have hl1 := Slv.inked_len (Slv.new 16) (p : Int) (pl64 x)
  obtain ⟨e2, s2⟩ := Slv.inked_endless e1 (n := q) (by omega) (pl64_len x)
  have f2 := Slv.inked_fit f1 (q : Int) (pl64 x)
  have hl2 := Slv.inked_len ((Slv.new 16).inked p (pl64 x)) (q : Int) (pl64 x)
  obtain ⟨-, e3, s3⟩ := Slv.burnt_endless e2 (by omega)
  have f3 := Slv.burnt_fit f2
  have hl3 := Slv.burnt_len (((Slv.new 16).inked p (pl64 x)).inked q (pl64 x))
  obtain ⟨-, s4⟩ := Slv.inked_endless e3 (n := p) (by omega) (pl64_len y)
  have hl4 := Slv.inked_len ((((Slv.new 16).inked p (pl64 x)).inked q (pl64 x)).burnt) (p : Int) (pl64 y)
  have g1 : ∀ j, j < 16 → gat ((Slv.new 16).inked p (pl64 x)).secs j = if p = j then (none, some (pl64 x)) else (none, none) := fun j hj => by
    rw [s1, gat_setp _ _ _ _ (by omega)]
    have : ∀ j, j < 16 → gat (Slv.new 16).secs j = (none, none) := fun j hj => gat_rep hj
    rw [this p hp, this j hj]
  have g2 : ∀ j, j < 16 → j = p ∨ j = q → gat (((Slv.new 16).inked p (pl64 x)).inked q (pl64 x)).secs j = (none, some (pl64 x)) := fun j hj h => by
    rw [s2, gat_setp _ _ _ _ (by omega), g1 q hq, g1 j hj]
    by_cases h1 : q = j
    · rw [if_pos h1]
      split <;> rfl
    · rw [if_neg h1, if_pos (by omega)]
  have g3 : ∀ j, j < 16 → j = p ∨ j = q → gat ((((Slv.new 16).inked p (pl64 x)).inked q (pl64 x)).burnt).secs j = (some (pl64 x), none) := fun j hj h => by
    rw [s3 j (by omega), g2 j hj h]
    rfl
  refine ⟨f1, f2, Slv.fit_up f3 (by omega), by unfold scX; omega, ?_, fun hne => ?_⟩
  · unfold scX
    rw [s4, gat_setp _ _ _ _ (by omega), if_pos rfl, g3 p hp (.inl rfl)]
  · unfold scX
    rw [s4, gat_setp _ _ _ _ (by omega), if_neg (by omega), g3 q hq (.inr rfl)]
theorem woken_ink (x : Slv) (l : List (Int × List B8)) {i : Nat} (h : i < x.secs.length) : (gat (x.woken l).secs i).2 = none := by
  rw [x.woken_at l h]
  unfold wokeSec
  split <;> rfl
theorem woken_inked (x : Slv) (l : List (Int × List B8)) (N : Nat) (h : x.secs.length = N) : (inkedK (x.woken l) N).length = 0 := by
  have : ∀ k, k ≤ N → inkedK (x.woken l) k = [] := fun k => by
    induction k with
    | zero => intro _; rfl
    | succ k ih => intro hk; rw [inkedK_succ, woken_ink x l (by omega), ih (by omega)]; rfl
  rw [this N (Nat.le_refl _)]
  rfl
end Go.Proofs.Ytejjofjhcgdedaa
