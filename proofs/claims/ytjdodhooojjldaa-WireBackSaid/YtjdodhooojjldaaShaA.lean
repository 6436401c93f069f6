/- Bytes added to a hash, walked. -/
import Derived.Test.YtjdodhooojjldaaShaH
import Derived.Test.YtjdodhooojjldaaBase
namespace Go.Proofs.Ytjdodhooojjldaa
set_option linter.unusedSimpArgs false
set_option linter.unusedVariables false
open Go.RowKit
open Sha
attribute [local go_sem] steady steadyUpon Cls same_cell by8 by32 by64

theorem Try.sz_int : (Try.prog.info? 3).map (·.size) = some 1 := by kernel_rfl
theorem Try.under_bs : Try.prog.underlying 25 = some (.slice 5) := by kernel_rfl
theorem Try.sz_bs : (Try.prog.info? 25).map (·.size) = some 1 := by kernel_rfl
def lenAt (w : World) (g : Nat) : Nat := match w.cell? ⟨g, 8, none⟩ with | some (.slice _ l _) => l | _ => 0
theorem lenAt_eq {w : World} {g t : Nat} {H : Nat → BitVec 32} {A : Option Addr} {l c n : Nat} (h : Arr w g t 10 (hcell H A l c n)) : lenAt w g = l := by
  unfold lenAt
  rw [h.cell (i := 8) (by omega)]
  rfl
theorem hcell_n (H : Nat → BitVec 32) (A : Option Addr) (l c n n' j : Nat) (h : j < 10) : put1 (hcell H A l c n) 9 (.int .i64 n') j = hcell H A l c n' j := by
  unfold put1 hcell
  by_cases h9 : j = 9
  · rw [if_pos h9, if_neg (by omega), if_neg (by omega)]
  · rw [if_neg h9]
    by_cases h8 : j < 8
    · rw [if_pos h8, if_pos h8]
    · rw [if_neg h8, if_neg h8, if_pos (by omega), if_pos (by omega)]
theorem hcell_rest (H : Nat → BitVec 32) (A A' : Option Addr) (l l' c c' n j : Nat) : put1 (hcell H A l c n) 8 (.slice A' l' c') j = hcell H A' l' c' n j := by
  unfold put1 hcell
  by_cases h8 : j = 8
  · rw [if_pos h8, if_neg (by omega), if_pos h8]
  · rw [if_neg h8, if_neg h8, if_neg h8]
theorem hcell_state (H H' : Nat → BitVec 32) (A : Option Addr) (l c n j : Nat) : (if j < 8 then by32 (H' j) else hcell H A l c n j) = hcell H' A l c n j := by
  unfold hcell
  by_cases h8 : j < 8
  · rw [if_pos h8, if_pos h8]
  · rw [if_neg h8, if_neg h8, if_neg h8]

theorem hcell_ne8 (H : Nat → BitVec 32) (A : Option Addr) (l c n j : Nat) (x : BitVec 8) : hcell H A l c n j ≠ by8 x := by
  unfold hcell by8 by32
  split
  · intro h; injection h with h; cases h
  · split
    · intro h; cases h
    · intro h; injection h with h; cases h
theorem Sl.far_hash {w w' : World} {g t : Nat} {H : Nat → BitVec 32} {A0 A : Option Addr} {l c n : Nat} {ys : List (BitVec 8)} (h : Sl by8 w A ys) (hA : Arr w g t 10 (hcell H A0 l c n)) (hu : Upd (only g) w w') : Sl by8 w' A ys := fun i hi => by
  obtain ⟨b, o, e, hc⟩ := h i hi
  refine ⟨b, o, e, (hu.cell (World.block_lt_of_cell? w _ hc) (fun hb => ?_)).trans hc⟩
  have hb' : b = g := hb
  subst hb'
  unfold Arr at hA
  rcases Nat.lt_or_ge (o + i) 10 with h10 | h10
  · simp only [World.cell?, hA] at hc
    simp [h10] at hc
    exact hcell_ne8 _ _ _ _ _ _ _ hc
  · simp only [World.cell?, hA] at hc
    rw [Array.getElem?_eq_none (by simpa using h10)] at hc
    cases hc
def AddPost (w : World) (B : Nat) (T : Nat → Prop) (g : Nat) (msg : List (BitVec 8)) (e : Ending) (w' : World) : Prop :=
  ∃ T', e = .returned (.tuple #[]) ∧ Hsh w' B T' g msg ∧ Upd T w w' ∧ ∀ k, T' k → T k ∨ w.heap.size ≤ k
def AddInv (B g N : Nat) (T : Nat → Prop) (full : List (BitVec 8)) (w wx : World) : Prop :=
  ∃ k A c, 64 * k ≤ N ∧ Arr wx g 123 10 (hcell (hs full k) A (N - 64 * k) c N) ∧ Ows wx B 5 A c ((full.drop (64 * k)).map by8) ∧ Upd T w wx ∧ (∀ k, inA A k → T k ∨ w.heap.size ≤ k)
end Go.Proofs.Ytjdodhooojjldaa
