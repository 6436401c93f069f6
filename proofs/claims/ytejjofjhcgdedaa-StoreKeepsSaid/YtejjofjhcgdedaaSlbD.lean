/- A slab, walked: Clone of bytes, Ink. -/
import Derived.Test.YtejjofjhcgdedaaSlbC
import Derived.Test.YtejjofjhcgdedaaShas
namespace Go.Proofs.Ytejjofjhcgdedaa
set_option linter.unusedSimpArgs false
set_option linter.unusedVariables false
open Go.RowKit
open Sha
attribute [local go_sem] steady steadyUpon Cls same_cell
attribute [local irreducible] wpHead wpTree wpHeadR
theorem own_none (w : World) {B : Nat} (hB : B ≤ w.heap.size) : Own (w.alloc (.cells #[] 5)) B 5 (some ⟨w.heap.size, 0, none⟩) 0 (([] : List B8).map by8) :=
  Own.lit by8 w 5 [] hB (Nat.zero_le _)
theorem Try.b_under8 : Try.prog.underlying 5 = some (.int .u8) := by kernel_rfl
/-- 64 bytes or more, copied: a slice of its own, not nil -/
def RetClo (w : World) (n : Nat) (bs : List B8) (e : Ending) (w' : World) : Prop :=
  ∃ A c, e = .returned (.slice A n c) ∧ bs.length = n ∧ Own w' w.heap.size 5 A c (bs.map by8) ∧ Ext w w'
set_option maxRecDepth 100000 in
set_option maxHeartbeats 1000000 in
theorem bclone_any (A : Option Addr) (n c : Nat) (bs : List B8) (w : World) (hl : bs.length = n) (hn : n ≤ 100000000) (hS : Sl by8 w A bs) :
    Calls Try.prog 38 #[.slice A n c] w (RetClo w n bs) := by
  have Hl := hide hl
  have HS := hide hS
  have hnl := fun W : World => Lib.run_eql_slice_nil (P := Try.prog) W 26 5 A n c 0 0 Try.under_bs
  clear hl hS
  cases A with
  | none =>
    have h0 : n = 0 := by
      rcases Nat.eq_zero_or_pos n with h | h
      · exact h
      · obtain ⟨b, o, e, _⟩ := HS.out 0 (by rw [Hl.out]; exact h)
        cases e
    have hb : bs = [] := by
      have := Hl.out
      rw [h0] at this
      exact List.length_eq_zero_iff.1 this
    subst h0 hb
    go_enter Try.func38, Try.ntmps38
    go_wp2_with fail
    go_ret
    exact ⟨none, 0, rfl, rfl, Own.nil, Upd.refl _ _⟩
  | some ad =>
    go_enter Try.func38, Try.ntmps38
    go_wp2_with (at_builtin; go_must (refine wpList_apd by8 one8 Try.el8 [] bs bs n rfl Hl.out (by omega) (by unfold maxLen; omega) rfl rfl rfl rfl (own_none w (Nat.le_refl _)) rfl Hl.out (HS.out.ext ((Upd.refl _ _).alloc _)) (by simp) ?_); intro A2 c2 w2 hO2 hU2 hin2)
    go_ret
    exact ⟨_, _, rfl, Hl.out, hO2, upd_new hU2 ((Upd.refl _ _).alloc _) (fun k hk => by unfold inA at hk; simp at hk; omega)⟩
end Go.Proofs.Ytejjofjhcgdedaa
