/- Scars in a map, plainly. -/
import Derived.Test.YtejjofjhcgdedaaSca
import Derived.Test.YtejjofjhcgdedaaKeys
namespace Go.Proofs.Ytejjofjhcgdedaa
set_option linter.unusedSimpArgs false
set_option linter.unusedVariables false
open Go.RowKit Go.Maps
def Sca.val (s : Sca) : Value := .slice s.A s.l s.c
/-- the last scar of a sector -/
def lastSca : List Sca → Int → Option Sca
  | [], _ => none
  | s :: r, n => match lastSca r n with
    | some b => some b
    | none => if s.n = n then some s else none
theorem lastSca_snoc (s : Sca) (n : Int) : ∀ l, lastSca (l ++ [s]) n = if s.n = n then some s else lastSca l n
  | [] => by simp [lastSca]
  | a :: r => by
    show (match lastSca (r ++ [s]) n with | some b => some b | none => if a.n = n then some a else none) = _
    rw [lastSca_snoc s n r]
    by_cases h : s.n = n
    · rw [if_pos h, if_pos h]
    · rw [if_neg h, if_neg h]; rfl
theorem lastSca_bs (n : Int) : ∀ l, lastScar (scaV l) n = (lastSca l n).map (·.bs)
  | [] => rfl
  | a :: r => by
    show (match lastScar (scaV r) n with | some b => some b | none => if a.n = n then some a.bs else none) = (match lastSca r n with | some b => some b | none => if a.n = n then some a else none : Option Sca).map (fun s => s.bs)
    rw [lastSca_bs n r]
    cases lastSca r n with
    | some b => rfl
    | none => dsimp only [Option.map]; split <;> rfl
theorem lastSca_in {n : Int} {s : Sca} : ∀ {l : List Sca}, lastSca l n = some s → ∃ i, i < l.length ∧ gat l i = s ∧ s.n = n
  | [], h => by cases h
  | a :: r, h => by
    unfold lastSca at h
    cases hr : lastSca r n with
    | some b =>
      rw [hr] at h
      injection h with h
      subst h
      obtain ⟨i, h1, h2, h3⟩ := lastSca_in hr
      exact ⟨i + 1, by simpa using h1, by simpa [gat] using h2, h3⟩
    | none =>
      rw [hr] at h
      dsimp only at h
      split at h
      · injection h with h
        subst h
        exact ⟨0, by simp, by simp [gat], by assumption⟩
      · cases h
def scaD (l : List Sca) : DataW Value := l.foldl (fun D s => D.put (.int .i64 s.n) (.held s.val)) (.map [])
theorem scaD_snoc (l : List Sca) (s : Sca) : scaD (l ++ [s]) = (scaD l).put (.int .i64 s.n) (.held s.val) := by unfold scaD; rw [List.foldl_append]; rfl
theorem snoc_cases {α : Type} (l : List α) : l = [] ∨ ∃ r s, l = r ++ [s] := by
  rcases List.eq_nil_or_concat l with h | ⟨r, s, h⟩
  · exact .inl h
  · exact .inr ⟨r, s, by simpa using h⟩
theorem scaD_map : ∀ (k : Nat) (l : List Sca), l.length = k → IsMap (scaD l)
  | 0, l, h => by obtain rfl := List.length_eq_zero_iff.1 h; exact isMap_empty
  | k + 1, l, h => by
    rcases snoc_cases l with rfl | ⟨r, s, rfl⟩
    · cases h
    · rw [scaD_snoc]
      exact (scaD_map k r (by simpa using h)).put _ _
theorem scaD_at (n : Int) (z : DataW Value) : ∀ (k : Nat) (l : List Sca), l.length = k → has (scaD l) (.int .i64 n) = (lastSca l n).isSome ∧ (scaD l).atKey (.int .i64 n) z = (match lastSca l n with | some s => .held s.val | none => z)
  | 0, l, h => by obtain rfl := List.length_eq_zero_iff.1 h; exact ⟨rfl, rfl⟩
  | k + 1, l, h => by
    rcases snoc_cases l with rfl | ⟨r, s, rfl⟩
    · cases h
    · obtain ⟨h1, h2⟩ := scaD_at n z k r (by simpa using h)
      have hm := scaD_map k r (by simpa using h)
      rw [scaD_snoc, lastSca_snoc]
      by_cases he : s.n = n
      · rw [if_pos he, he]
        exact ⟨has_put_same hm (show WideAt.IsKeyLit (.int .i64 n) from trivial) _, atKey_put_same hm (show WideAt.IsKeyLit (.int .i64 n) from trivial) _ _⟩
      · rw [if_neg he]
        have hne : (Lit.int .i64 n) ≠ (Lit.int .i64 s.n) := fun h => by injection h with _ h; exact he h.symm
        exact ⟨(has_put_other hne _).trans h1, (atKey_put_other hne _ _).trans h2⟩
end Go.Proofs.Ytejjofjhcgdedaa
