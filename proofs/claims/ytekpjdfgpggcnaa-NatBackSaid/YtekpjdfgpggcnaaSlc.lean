/- Slices of slices: the address behind a cut is a word of its own, so that a walk leaves it alone. -/
import Derived.Test.YtekpjdfgpggcnaaOws
namespace Go.Proofs.Ytekpjdfgpggcnaa
set_option linter.unusedSimpArgs false
set_option linter.unusedVariables false
open Go.RowKit

/-- Where 's[k:]' begins, s of the capacity c at A. -/
def shA (A : Option Addr) (c k : Nat) : Option Addr := if c = k then A else A.map (·.add k)
theorem shA_none (c k : Nat) : shA none c k = none := by unfold shA; split <;> rfl
theorem shA_zero (A : Option Addr) (c : Nat) : shA A c 0 = A := by
  unfold shA
  split
  · rfl
  · cases A with
    | none => rfl
    | some a => simp [Addr.add]
theorem shA_some (g o c k : Nat) : shA (some ⟨g, o, none⟩) c k = some (if c = k then ⟨g, o, none⟩ else ⟨g, o + k, none⟩) := by
  unfold shA
  split
  · rfl
  · rw [Option.map_some, Addr.add_lit]
theorem inA_shA {A : Option Addr} {c k i : Nat} : inA (shA A c k) i ↔ inA A i := by
  unfold shA inA
  split
  · rfl
  · cases A with
    | none => rfl
    | some a => simp [Addr.add]; split <;> simp
section
variable {α : Type} [Inhabited α] {f : α → Value} {w : World} {A : Option Addr} {xs : List α} {B c : Nat} {e : TypeId} {vs : List Value}
theorem Sl.shA (h : Sl f w A xs) {k : Nat} (hc : xs.length ≤ c) : Sl f w (shA A c k) (xs.drop k) := by
  by_cases hk : c = k
  · rw [List.drop_of_length_le (by omega)]; exact Sl.nil (f := f)
  · rcases Nat.eq_zero_or_pos xs.length with h0 | h0
    · rw [List.eq_nil_of_length_eq_zero h0, List.drop_nil]; exact Sl.nil (f := f)
    · obtain ⟨b, o, rfl, _, _⟩ := h.open_ h0
      rw [shA_some, if_neg hk]
      exact h.drop k
omit [Inhabited α] in
theorem Ows.shA (h : Ows w B e A c vs) {k : Nat} (hk : k ≤ vs.length) : Ows w B e (shA A c k) (c - k) (vs.drop k) := by
  rcases h.2.2 with ⟨rfl, rfl⟩ | ⟨g, o, cur, rfl, _⟩
  · have h1 := h.1
    have h0 : vs = [] := List.eq_nil_of_length_eq_zero (by omega)
    subst h0
    rw [shA_none, List.drop_nil, Nat.zero_sub]
    exact Ows.nil
  · rw [shA_some]
    have := h.drop (k := k) hk
    by_cases h2 : c = k
    · rw [if_pos h2] at this ⊢; exact this
    · rw [if_neg h2] at this ⊢; exact this
end
section
variable {P : Program} {T e : TypeId} (hT : P.underlying T = some (.slice e)) (hs : (P.info? e).map (·.size) = some 1)
include hT hs
theorem run_cut_at (w : World) (A : Option Addr) (len cap l h m : Nat) : (((sizeOf (P.elem T)).run P w).andThen fun s w => .ok (sliced A l h m s) w) = .ok (.slice (shA A m l) (h - l) (m - l)) w := by
  have he : P.elem T = e := by simp [Program.elem, hT]
  cases hq : P.info? e with
  | none => simp [hq] at hs
  | some i =>
    have h1 : i.size = 1 := by simpa [hq] using hs
    simp [he, sizeOf, typeInfo, hq, h1, sliced, shA]
/-- s[l:] -/
theorem run_cut_l (A : Option Addr) (len cap l : Nat) (k : IntKind) (hl : l ≤ len) (w : World) : (Instr.sliceAt T (.slice A len cap) (some (.int k (l : Int))) none none).run P w = .ok (.slice (shA A cap l) (len - l) (cap - l)) w := by
  have hT' : P.underlying T = some (.slice (P.elem T)) := by simp [Program.elem, hT]
  rw [run_sliceAt_slice w T _ _ _ _ hT', run_slice_l w T A len cap hT' k l (by omega) (by omega)]
  exact run_cut_at hT hs w A len cap l len cap
/-- s[:h] -/
theorem run_cut_h (A : Option Addr) (len cap h : Nat) (k : IntKind) (hh : h ≤ cap) (w : World) : (Instr.sliceAt T (.slice A len cap) none (some (.int k (h : Int))) none).run P w = .ok (.slice A h cap) w := by
  have hT' : P.underlying T = some (.slice (P.elem T)) := by simp [Program.elem, hT]
  rw [run_sliceAt_slice w T _ _ _ _ hT', run_slice_h w T A len cap hT' k h (by omega) (by omega)]
  have := run_cut_at hT hs w A len cap 0 h cap
  rw [shA_zero] at this
  exact this
/-- s[l:h] -/
theorem run_cut_lh (A : Option Addr) (len cap l h : Nat) (k k' : IntKind) (hl : l ≤ h) (hh : h ≤ cap) (w : World) : (Instr.sliceAt T (.slice A len cap) (some (.int k (l : Int))) (some (.int k' (h : Int))) none).run P w = .ok (.slice (shA A cap l) (h - l) (cap - l)) w := by
  have hT' : P.underlying T = some (.slice (P.elem T)) := by simp [Program.elem, hT]
  rw [run_sliceAt_slice w T _ _ _ _ hT', run_slice_lh w T A len cap hT' k k' l h (by omega) (by omega) (by omega)]
  exact run_cut_at hT hs w A len cap l h cap
/-- s[:h:m] -/
theorem run_cut_hm (A : Option Addr) (len cap h m : Nat) (k k' : IntKind) (hh : h ≤ m) (hm : m ≤ cap) (w : World) : (Instr.sliceAt T (.slice A len cap) none (some (.int k (h : Int))) (some (.int k' (m : Int)))).run P w = .ok (.slice A h m) w := by
  have hT' : P.underlying T = some (.slice (P.elem T)) := by simp [Program.elem, hT]
  rw [run_sliceAt_slice w T _ _ _ _ hT', run_slice_hm w T A len cap hT' k k' h m (by omega) (by omega) (by omega)]
  have := run_cut_at hT hs w A len cap 0 h m
  rw [shA_zero] at this
  exact this
end
end Go.Proofs.Ytekpjdfgpggcnaa
