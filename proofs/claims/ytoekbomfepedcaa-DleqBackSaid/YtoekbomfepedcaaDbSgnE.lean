/- SignBack, walked. -/
import Derived.Test.YtoekbomfepedcaaDbSgnL
namespace Go.Proofs.Ytoekbomfepedcaa
set_option linter.unusedSimpArgs false
set_option linter.unusedVariables false
open Go.RowKit
open Nt Sha
attribute [local go_sem] steady steadyUpon Cls same_cell anyW
attribute [local irreducible] wpHead wpTree wpHeadR sum chalOf
theorem byteSz_pos {Q : Nat} (h : 64 < Q) : 1 ≤ byteSz Q := by
  rcases Nat.eq_zero_or_pos (byteSz Q) with h0 | h0
  · have h1 : Q < 256 ^ byteSz Q := bytelen_le_iff.1 (show bytelen Q ≤ byteSz Q from Nat.le_refl _)
    rw [h0] at h1
    omega
  · exact h0
end Go.Proofs.Ytoekbomfepedcaa
