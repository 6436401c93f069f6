/- Rings of numbers, walked: Inv in no ring. -/
import Derived.Test.YtekpjdfgpggcnaaModC
namespace Go.Proofs.Ytekpjdfgpggcnaa
set_option linter.unusedSimpArgs false
set_option linter.unusedVariables false
open Go.RowKit
open Nt
attribute [local go_sem] steady steadyUpon Cls same_cell
attribute [local irreducible] wpHead wpTree

theorem minv_nil (va : Value) (a : Nat) (w : World) (hVa : NatV w va a) :
    Calls Try.prog 44 #[.pointer none, va] w (RetE w 0 1) := by
  obtain ⟨A, la, ca, xs, rfl, -⟩ := hVa.open_
  go_enter Try.func44, Try.ntmps44
  have b1 : Box ((w.alloc (.cells #[.slice A la ca] 26)).alloc (.cells #[.slice none 0 0] 26)) (w.heap.size + 1) 26 (.slice none 0 0) := Box.new_at (by simp)
  have q1 := b1.cell
  have q2 := b1.frozen
  go_wp2_with fail
  have q := (b1.set (.slice none 0 0)).cell
  exact bodyPost_ret (v := .tuple #[.agg #[.slice none 0 0], .int .i64 1]) (by simp [results, Try.results44, go_sem, q]) rfl ⟨_, _, _, rfl, NatV.nil _, (by repeat (first | (with_reducible exact Upd.refl _ _) | (with_reducible assumption) | (refine Upd.setCell ?_ (.inr (by first | exact Nat.le_refl _ | (dsimp only; omega) | (simp; done) | (simp; omega))) _) | (with_reducible refine Upd.alloc ?_ _) | (with_reducible refine Upd.drew ?_) | (with_reducible refine Upd.trans ?_ (by with_reducible assumption))))⟩
end Go.Proofs.Ytekpjdfgpggcnaa
