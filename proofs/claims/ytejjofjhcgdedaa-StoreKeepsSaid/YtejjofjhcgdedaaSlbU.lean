/- The law that counts strokes, walked. -/
import Derived.Test.YtejjofjhcgdedaaSlbT
namespace Go.Proofs.Ytejjofjhcgdedaa
set_option linter.unusedSimpArgs false
set_option linter.unusedVariables false
open Go.RowKit
open Sha
attribute [local go_sem] steady steadyUpon Cls same_cell anyW by8 str_eq
attribute [local irreducible] wpHead wpTree wpHeadR
theorem u64_mod80 (z : Int) : ∃ K : Nat, (IntKind.u64.wrap z).tmod 80 = (K : Int) ∧ K < 80 := by
  have hw0 : 0 ≤ IntKind.u64.wrap z := by
    unfold IntKind.wrap
    simp [IntKind.signed, IntKind.bits]
    omega
  rw [Int.tmod_eq_emod_of_nonneg hw0]
  exact ⟨(IntKind.u64.wrap z % 80).toNat, by omega, by omega⟩
theorem u64_mod40 (z : Int) : ∃ K : Nat, (IntKind.u64.wrap z).tmod 40 = (K : Int) ∧ K < 40 := by
  have hw0 : 0 ≤ IntKind.u64.wrap z := by
    unfold IntKind.wrap
    simp [IntKind.signed, IntKind.bits]
    omega
  rw [Int.tmod_eq_emod_of_nonneg hw0]
  exact ⟨(IntKind.u64.wrap z % 40).toNat, by omega, by omega⟩
theorem sostrokes (w0 : World) (g gl : Nat) (x : Slv) (w : World) (h : SlO w0 w g gl x) :
    Calls Try.prog 16 #[.pointer (some ⟨g, 0, none⟩)] w fun e w' => e = .returned (.int .i64 x.strokes) ∧ w' = w := by
  obtain ⟨⟨D, f, hS0⟩, hE⟩ := h
  exact sstrokes_any _ D g gl f x w hS0
theorem soout (w0 : World) (g gl : Nat) (x : Slv) (w : World) (h : SlO w0 w g gl x) :
    Calls Try.prog 17 #[.pointer (some ⟨g, 0, none⟩)] w fun e w' => e = .returned (.bool x.out) ∧ w' = w := by
  obtain ⟨⟨D, f, hS0⟩, hE⟩ := h
  exact sout_any _ D g gl f x w hS0
theorem n8_ofNat {k : Nat} (h : k < 256) : n8 (BitVec.ofNat 8 k) = (k : Int) := by
  unfold n8
  rw [BitVec.toNat_ofNat, Nat.mod_eq_of_lt (by omega)]
theorem Slv.cnt_fit {S i b : Nat} (h : i + b ≤ S) (hS : S < 80) : (Slv.cnt S i b).fit 80 := ⟨by show (0 : Int) ≤ (S : Int) - i - b; omega, by show (S : Int) - i - b ≤ 9223372036854775807; omega, by show (0 : Int) ≤ (i : Int) + b; omega, by show (i : Int) + b ≤ ((80 : Nat) : Int); omega⟩
theorem cnt_woken_len (S i b : Nat) : ((Slv.cnt S i b).woken []).secs.length = 64 := by rw [Slv.woken_len, Slv.cnt_len]
theorem cnt_woken_face (S i b : Nat) {j : Nat} (hj : j < 64) : faceOf (gat ((Slv.cnt S i b).woken []).secs j) = if j < b then pl64 (BitVec.ofNat 8 (j + 1)) else pl64 0 := by
  rw [Slv.woken_nil _ (by rw [Slv.cnt_len]; exact hj), Slv.cnt_at _ _ _ hj]
  unfold cntSec
  split
  · rfl
  · split <;> rfl
end Go.Proofs.Ytejjofjhcgdedaa
