/- Bytes as a number, byte by byte; what rings keep while a block of the call's own is written. -/
import Derived.Test.YtoekbomfepedcaaGrpC
namespace Go.Proofs.Ytoekbomfepedcaa
set_option linter.unusedSimpArgs false
set_option linter.unusedVariables false
open Go.RowKit
open Nt
theorem vf_head (β : Nat) (g : Nat → Nat) : ∀ n, vf β g (n + 1) = g 0 + β * vf β (fun i => g (i + 1)) n
  | 0 => by simp [vf]
  | n + 1 => by
    rw [vf_succ (f := g), vf_head β g n, vf_succ (f := fun i => g (i + 1)), Nat.mul_add, Nat.pow_succ]
    simp only [Nat.mul_comm, Nat.mul_left_comm, Nat.mul_assoc, Nat.add_assoc, Nat.add_comm, Nat.add_left_comm]
theorem ofB_snoc (bs : List (BitVec 8)) (b : BitVec 8) : ofB (bs ++ [b]) = ofB bs * 256 + b.toNat := by
  unfold ofB
  rw [List.length_append, List.length_singleton, vf_head]
  have h0 : bdig (bs ++ [b]) 0 = b.toNat := by simp [bdig, dig, d8, gat]
  have h1 : vf 256 (fun i => bdig (bs ++ [b]) (i + 1)) bs.length = vf 256 (bdig bs) bs.length := vf_congr fun i hi => by
    unfold bdig
    rw [List.length_append, List.length_singleton, show bs.length + 1 - 1 - (i + 1) = bs.length - 1 - i by omega]
    unfold dig
    congr 1
    simp only [gat, List.getD_eq_getElem?_getD]
    rw [List.getElem?_append_left (by omega)]
  rw [h0, h1]
  omega
theorem ofB_take {bs : List (BitVec 8)} {j : Nat} (h : j < bs.length) : ofB (bs.take (j + 1)) = ofB (bs.take j) * 256 + (gat bs j).toNat := by
  rw [List.take_succ_eq_append_getElem h, ofB_snoc, gat_lt h]
theorem NatV.farV {w : World} {s : Value} {n : Nat} {p : Addr} {u v : Value} (h : NatV w s n) (hc : w.cell? p = some u) (hu : ∀ x, by32 x ≠ u) : NatV (w.setCell p v) s n := by
  obtain ⟨s, rfl, h⟩ := h
  exact ⟨s, rfl, h.far hc hu⟩
theorem RingV.farV {w : World} {g n : Nat} {p : Addr} {u v : Value} (h : RingV w g n) (hg : g ≠ p.block) (hc : w.cell? p = some u) (hu : ∀ x, by32 x ≠ u) : RingV (w.setCell p v) g n := by
  obtain ⟨A, l, c, h1, h2, h3⟩ := h
  exact ⟨A, l, c, h1.far hg v, h2.farV hc hu, h3⟩
theorem cmpI_le0 (a b : Nat) : decide (cmpI a b ≤ 0) = decide (a ≤ b) := by
  unfold cmpI
  split
  · rw [decide_eq_true (show a ≤ b by omega)]; rfl
  · split
    · rw [decide_eq_true (show a ≤ b by omega)]; rfl
    · rw [decide_eq_false (show ¬ a ≤ b by omega)]; rfl
theorem cmpI_ge0 (a b : Nat) : decide (0 ≤ cmpI a b) = decide (b ≤ a) := by
  unfold cmpI
  split
  · rw [decide_eq_false (show ¬ b ≤ a by omega)]; rfl
  · split
    · rw [decide_eq_true (show b ≤ a by omega)]; rfl
    · rw [decide_eq_true (show b ≤ a by omega)]; rfl
theorem cmpI_gt0 (a b : Nat) : decide (0 < cmpI a b) = decide (b < a) := by
  unfold cmpI
  split
  · rw [decide_eq_false (show ¬ b < a by omega)]; rfl
  · split
    · rw [decide_eq_false (show ¬ b < a by omega)]; rfl
    · rw [decide_eq_true (show b < a by omega)]; rfl
end Go.Proofs.Ytoekbomfepedcaa
