/- slices.Clone and slices.Reverse over bytes, walked. -/
import Derived.Test.YtjdodhooojjldaaNatX
import Derived.Test.YtjdodhooojjldaaBase
import Derived.RegionTactic
import Derived.BigRegion
import Derived.ChangeAlike
import Derived.Lib.SliceRun
namespace Go.Proofs.Ytjdodhooojjldaa
set_option linter.unusedSimpArgs false
set_option linter.unusedVariables false
open Go.RowKit
open Nt
attribute [local go_sem] steady steadyUpon Cls same_cell by8
attribute [local irreducible] wpHead

theorem own_none8 (w : World) {B : Nat} (hB : B ≤ w.heap.size) : Own (w.alloc (.cells #[] 5)) B 5 (some ⟨w.heap.size, 0, none⟩) 0 (([] : List (BitVec 8)).map by8) :=
  Own.lit by8 w 5 [] hB (Nat.zero_le _)
set_option maxRecDepth 100000 in
set_option maxHeartbeats 1000000 in
theorem clone_any (A : Option Addr) (n c : Nat) (bs : List (BitVec 8)) (w : World) (hl : bs.length = n) (hn : n ≤ 100000000) (hS : Sl by8 w A bs) :
    Calls Try.prog 73 #[.slice A n c] w (RetL w n bs) := by
  have Hl := hide hl
  have HS := hide hS
  have hnl := fun W : World => Lib.run_eql_slice_nil (P := Try.prog) W 25 5 A n c 0 0 Try.n_under_bs
  clear hl hS
  cases A with
  | none =>
    have h0 : n = 0 := by
      rcases Nat.eq_zero_or_pos n with h | h
      · exact h
      · obtain ⟨b, o, e, _⟩ := HS.out 0 (by rw [Hl.out]; exact h)
        cases e
    have hb : bs = [] := by
      have := Hl.out
      rw [h0] at this
      exact List.length_eq_zero_iff.1 this
    subst h0 hb
    go_enter Try.func73, Try.ntmps73
    go_wp2_with fail
    go_ret
    exact ⟨none, 0, rfl, rfl, Own.nil, Upd.refl _ _⟩
  | some ad =>
    go_enter Try.func73, Try.ntmps73
    go_wp2_with (at_builtin; go_must (refine wpList_apd by8 one8 Try.n_el8 [] bs bs n rfl Hl.out (by omega) (by unfold maxLen; omega) rfl rfl rfl rfl (own_none8 w (Nat.le_refl _)) rfl Hl.out (HS.out.ext ((Upd.refl _ _).alloc _)) (by simp) ?_); intro A2 c2 w2 hO2 hU2 hin2)
    go_ret
    exact ⟨_, _, rfl, Hl.out, hO2, Upd.fresh hU2 ((Upd.refl _ _).alloc _) (fun k hk => by unfold inA at hk; simp at hk; omega)⟩

/-- the first k and the last k have changed places -/
def rvk (zs : List (BitVec 8)) (k : Nat) : List (BitVec 8) := (List.range zs.length).map fun i => if i < k ∨ zs.length - k ≤ i then gat zs (zs.length - 1 - i) else gat zs i
theorem rvk_length (zs : List (BitVec 8)) (k : Nat) : (rvk zs k).length = zs.length := by simp [rvk]
theorem rvk_at (zs : List (BitVec 8)) (k : Nat) {i : Nat} (h : i < zs.length) : gat (rvk zs k) i = if i < k ∨ zs.length - k ≤ i then gat zs (zs.length - 1 - i) else gat zs i := by
  unfold rvk
  rw [gat_lt (by simp [h])]
  simp
theorem ext_gat {a b : List (BitVec 8)} (hl : a.length = b.length) (h : ∀ i, i < a.length → gat a i = gat b i) : a = b := by
  refine List.ext_getElem hl fun i h1 h2 => ?_
  have := h i h1
  rwa [gat_lt h1, gat_lt h2] at this
theorem rvk_zero (zs : List (BitVec 8)) : rvk zs 0 = zs := by
  refine ext_gat (rvk_length _ _) fun i hi => ?_
  rw [rvk_length] at hi
  rw [rvk_at zs 0 hi, if_neg (by omega)]
theorem gat_reverse (zs : List (BitVec 8)) {i : Nat} (h : i < zs.length) : gat zs.reverse i = gat zs (zs.length - 1 - i) := by
  rw [gat_lt (by simp [h]), gat_lt (by omega), List.getElem_reverse]
theorem rvk_end (zs : List (BitVec 8)) {k : Nat} (h : zs.length ≤ 2 * k + 1) : rvk zs k = zs.reverse := by
  refine ext_gat (by rw [rvk_length, List.length_reverse]) fun i hi => ?_
  rw [rvk_length] at hi
  rw [rvk_at zs k hi, gat_reverse zs hi]
  by_cases h1 : i < k ∨ zs.length - k ≤ i
  · rw [if_pos h1]
  · rw [if_neg h1]; congr 1; omega
theorem gat_set' (zs : List (BitVec 8)) (j : Nat) (x : BitVec 8) {i : Nat} (h : i < zs.length) : gat (zs.set j x) i = if i = j then x else gat zs i := by
  rw [gat_lt (by simp [h]), List.getElem_set, gat_lt h]
  by_cases e : j = i
  · rw [if_pos e, if_pos e.symm]
  · rw [if_neg e, if_neg (Ne.symm e)]
theorem rvk_step (zs : List (BitVec 8)) {k : Nat} (h : 2 * k + 1 < zs.length) : ((rvk zs k).set k (gat zs (zs.length - 1 - k))).set (zs.length - 1 - k) (gat zs k) = rvk zs (k + 1) := by
  refine ext_gat (by simp [rvk_length]) fun i hi => ?_
  have hi' : i < zs.length := by simpa [rvk_length] using hi
  rw [gat_set' _ _ _ (by simpa [rvk_length] using hi'), gat_set' _ _ _ (by simpa [rvk_length] using hi'), rvk_at zs k hi', rvk_at zs (k + 1) hi']
  by_cases h1 : i = zs.length - 1 - k
  · rw [if_pos h1, if_pos (by omega)]; congr 1; omega
  · rw [if_neg h1]
    by_cases h2 : i = k
    · rw [if_pos h2, if_pos (by omega), h2]
    · rw [if_neg h2]
      by_cases h3 : i < k ∨ zs.length - k ≤ i
      · rw [if_pos h3, if_pos (by omega)]
      · rw [if_neg h3, if_neg (by omega)]
end Go.Proofs.Ytjdodhooojjldaa
