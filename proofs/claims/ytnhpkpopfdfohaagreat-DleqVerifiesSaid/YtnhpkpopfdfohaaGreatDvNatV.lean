/- Numbers that lie in new memory, walked once more: trim, FromBytes; the document's Of, Get. -/
import Derived.Test.YtnhpkpopfdfohaaGreatDvRefs
namespace Go.Proofs.YtnhpkpopfdfohaaGreat
set_option linter.unusedSimpArgs false
set_option linter.unusedVariables false
open Go.RowKit
open Nt
attribute [local go_sem] steady steadyUpon Cls same_cell by32 by8 wrap_w32 or_u32
section
attribute [local go_sem] wrap_w8
end
theorem NatV.upd {w w' : World} {A : Option Addr} {l c n : Nat} {T : Nat → Prop} (h : NatV w (.agg #[.slice A l c]) n) (hu : Upd T w w') (hT : ∀ k, inA A k → ¬ T k) : NatV w' (.agg #[.slice A l c]) n := by
  obtain ⟨s, e, A', c', xs, e2, h2, h3, h4, h5⟩ := h
  cases e
  cases e2
  exact ⟨_, rfl, A, c, xs, rfl, h2, h3, h4.upd hu (fun b o hb => hT b (by rw [hb]; simp [inA])), h5⟩
end Go.Proofs.YtnhpkpopfdfohaaGreat
