/- A slab, plainly: what is burnt, what wakes; a burnt face lasts. -/
import Derived.Test.YtejjofjhcgdedaaSlbF
namespace Go.Proofs.Ytejjofjhcgdedaa
set_option linter.unusedSimpArgs false
set_option linter.unusedVariables false
open Go.RowKit
theorem Slv.look_zero {x : Slv} {n : Int} (h : x.look n = 0) : 0 ≤ n ∧ n < (x.secs.length : Int) := by
  unfold Slv.look at h
  split at h
  · cases h
  · split at h
    · cases h
    · omega
theorem Slv.look_out {x : Slv} {n : Int} (h : x.look n = 0) : x.out = false := by
  unfold Slv.look at h
  split at h
  · cases h
  · rename_i h1; simpa using h1
/-- the sectors below i are burnt, as far as the strokes go: the slab, and whether it came so far -/
def Slv.burnK (x : Slv) : Nat → Slv × Bool
  | 0 => (x, true)
  | i + 1 => match x.burnK i with
    | (y, false) => (y, false)
    | (y, true) => match (gat y.secs i).2 with
      | none => (y, true)
      | some b => if y.out then (y, false) else (⟨y.secs.set i (some b, none), y.stroke.endless, y.stroke.supply, y.stroke.strokes⟩, true)
theorem Slv.burnK_len (x : Slv) : ∀ i, (x.burnK i).1.secs.length = x.secs.length
  | 0 => rfl
  | i + 1 => by
    have ih := x.burnK_len i
    unfold Slv.burnK
    generalize x.burnK i = r at ih
    obtain ⟨y, b⟩ := r
    cases b with
    | false => exact ih
    | true =>
      dsimp only at ih ⊢
      split
      · exact ih
      · split
        · exact ih
        · simpa using ih
theorem Slv.stroke_fit {x : Slv} {k : Nat} (h : x.fit k) : x.stroke.fit (k + 1) := by
  unfold Slv.stroke
  split
  · exact ⟨h.s0, h.s1, h.t0, by have := h.t1; omega⟩
  · rename_i ho
    have h0 := h.s0
    have h1 := h.s1
    have h2 := h.t0
    have h3 := h.t1
    refine ⟨?_, ?_, by dsimp only; omega, by dsimp only; omega⟩
    · dsimp only
      split
      · exact h0
      · rename_i he
        have : x.supply ≠ 0 := fun h => ho (by unfold Slv.out; rw [h]; simpa using he)
        omega
    · dsimp only
      split <;> omega
theorem Slv.burnK_fit {x : Slv} {k : Nat} (h : x.fit k) : ∀ i, (x.burnK i).1.fit (k + i)
  | 0 => h
  | i + 1 => by
    have ih := Slv.burnK_fit h i
    unfold Slv.burnK
    generalize x.burnK i = r at ih
    obtain ⟨y, b⟩ := r
    have up : ∀ {z : Slv} {k : Nat}, z.fit k → z.fit (k + 1) := fun h => ⟨h.s0, h.s1, h.t0, by have := h.t1; omega⟩
    cases b with
    | false => exact up ih
    | true =>
      dsimp only at ih ⊢
      split
      · exact up ih
      · split
        · exact up ih
        · have := Slv.stroke_fit ih
          exact ⟨this.s0, this.s1, this.t0, this.t1⟩
theorem Slv.burnK_stop {x : Slv} {i : Nat} (h : (x.burnK i).2 = false) : ∀ d, x.burnK (i + d) = x.burnK i
  | 0 => rfl
  | d + 1 => by
    have ih := Slv.burnK_stop h d
    have e : x.burnK (i + d + 1) = (match x.burnK (i + d) with
      | (y, false) => (y, false)
      | (y, true) => match (gat y.secs (i + d)).2 with
        | none => (y, true)
        | some b => if y.out then (y, false) else (⟨y.secs.set (i + d) (some b, none), y.stroke.endless, y.stroke.supply, y.stroke.strokes⟩, true)) := rfl
    show x.burnK (i + d + 1) = _
    rw [e, ih]
    generalize x.burnK i = r at h
    obtain ⟨y, b⟩ := r
    dsimp only at h
    subst h
    rfl
def Slv.burnE (x : Slv) : Int := if x.look 0 = 0 then (if (x.burnK x.secs.length).2 then 0 else 12) else x.look 0
def Slv.burnt (x : Slv) : Slv := if x.look 0 = 0 then (x.burnK x.secs.length).1 else x
/-- the last of the scars of a sector -/
def lastScar : List (Int × List B8) → Int → Option (List B8)
  | [], _ => none
  | s :: r, n => match lastScar r n with
    | some b => some b
    | none => if s.1 = n then some s.2 else none
theorem lastScar_snoc (s : Int × List B8) (n : Int) : ∀ l, lastScar (l ++ [s]) n = if s.1 = n then some s.2 else lastScar l n
  | [] => by simp [lastScar]
  | a :: r => by
    show (match lastScar (r ++ [s]) n with | some b => some b | none => if a.1 = n then some a.2 else none) = _
    rw [lastScar_snoc s n r]
    by_cases h : s.1 = n
    · rw [if_pos h, if_pos h]
    · rw [if_neg h, if_neg h]; rfl
/-- one sector, woken under this scar -/
def wokeSec (s : Option (List B8) × Option (List B8)) (c : Option (List B8)) : Option (List B8) × Option (List B8) :=
  match s.2, c with
  | some _, some b => (some (onto zero64B b), none)
  | _, _ => (s.1, none)
def Slv.woken (x : Slv) (l : List (Int × List B8)) : Slv := ⟨(List.range x.secs.length).map fun i => wokeSec (gat x.secs i) (lastScar l i), true, 0, x.strokes⟩
theorem Slv.woken_len (x : Slv) (l : List (Int × List B8)) : (x.woken l).secs.length = x.secs.length := by unfold Slv.woken; simp
theorem Slv.woken_at (x : Slv) (l : List (Int × List B8)) {i : Nat} (h : i < x.secs.length) : gat (x.woken l).secs i = wokeSec (gat x.secs i) (lastScar l i) := by
  unfold Slv.woken
  rw [gat_lt (by simpa using h)]
  simp
/-- N sectors, of which one shows a burnt face and isn't inked -/
structure Slv.Has (x : Slv) (N at_ : Nat) (bs : List B8) : Prop where
  len : x.secs.length = N
  face : gat x.secs at_ = (some bs, none)
section
variable {x : Slv} {N at_ : Nat} {bs : List B8}
theorem Slv.Has.inked (h : x.Has N at_ bs) (hat : at_ < N) {n : Int} (hn : n ≠ (at_ : Int)) (c : List B8) : (x.inked n c).Has N at_ bs := by
  unfold Slv.inked
  split
  · rename_i he
    have hlk : x.look n = 0 := by
      unfold Slv.inkE at he
      split at he
      · assumption
      · exact he
    obtain ⟨h0, h1⟩ := Slv.look_zero hlk
    have hl := h.len
    refine ⟨by simpa using h.len, ?_⟩
    dsimp only
    rw [gat_setp _ _ _ _ (by omega), if_neg (by omega)]
    exact h.face
  · exact h
theorem Slv.Has.supplied (h : x.Has N at_ bs) (n : Int) : (x.supplied n).Has N at_ bs := by
  unfold Slv.supplied
  split
  · exact h
  · exact ⟨h.len, h.face⟩
theorem Slv.Has.burnK (h : x.Has N at_ bs) (hat : at_ < N) : ∀ i, (x.burnK i).1.Has N at_ bs
  | 0 => h
  | i + 1 => by
    have ih := Slv.Has.burnK h hat i
    unfold Slv.burnK
    generalize x.burnK i = r at ih
    obtain ⟨y, b⟩ := r
    cases b with
    | false => exact ih
    | true =>
      dsimp only at ih ⊢
      split
      · exact ih
      · rename_i hs
        split
        · exact ih
        · refine ⟨by simpa using ih.len, ?_⟩
          dsimp only
          have hl := ih.len
          rw [gat_setp _ _ _ _ (by omega), if_neg (fun e => by subst e; rw [ih.face] at hs; cases hs)]
          exact ih.face
theorem Slv.Has.burnt (h : x.Has N at_ bs) (hat : at_ < N) : x.burnt.Has N at_ bs := by
  unfold Slv.burnt
  split
  · exact h.burnK hat _
  · exact h
theorem Slv.Has.woken (h : x.Has N at_ bs) (hat : at_ < N) (l : List (Int × List B8)) : (x.woken l).Has N at_ bs := by
  have hl := h.len
  refine ⟨(x.woken_len l).trans h.len, ?_⟩
  rw [x.woken_at l (by omega), h.face]
  rfl
end
theorem Slv.fit_up {x : Slv} {k k' : Nat} (h : x.fit k) (hk : k ≤ k') : x.fit k' := ⟨h.s0, h.s1, h.t0, by have := h.t1; omega⟩
theorem Slv.supplied_fit {x : Slv} {k : Nat} (h : x.fit k) {n : Int} (hn : n ≤ 9223372036854775807) : (x.supplied n).fit k := by
  unfold Slv.supplied
  split
  · exact h
  · refine ⟨?_, ?_, h.t0, h.t1⟩
    · dsimp only; split <;> omega
    · dsimp only; split <;> omega
theorem Slv.inked_fit {x : Slv} {k : Nat} (h : x.fit k) (n : Int) (c : List B8) : (x.inked n c).fit (k + 1) := by
  unfold Slv.inked
  split
  · have := Slv.stroke_fit h
    exact ⟨this.s0, this.s1, this.t0, this.t1⟩
  · exact Slv.fit_up h (by omega)
theorem Slv.inked_len (x : Slv) (n : Int) (c : List B8) : (x.inked n c).secs.length = x.secs.length := by
  unfold Slv.inked
  split
  · simp
  · rfl
theorem Slv.supplied_len (x : Slv) (n : Int) : (x.supplied n).secs.length = x.secs.length := by
  unfold Slv.supplied
  split <;> rfl
theorem Slv.burnt_len (x : Slv) : x.burnt.secs.length = x.secs.length := by
  unfold Slv.burnt
  split
  · exact x.burnK_len _
  · rfl
theorem Slv.burnt_fit {x : Slv} {k : Nat} (h : x.fit k) : x.burnt.fit (k + x.secs.length) := by
  unfold Slv.burnt
  split
  · exact Slv.burnK_fit h _
  · exact Slv.fit_up h (by omega)
theorem Slv.woken_fit {x : Slv} {k : Nat} (h : x.fit k) (l : List (Int × List B8)) : (x.woken l).fit k := ⟨(by show (0 : Int) ≤ 0; decide), (by show (0 : Int) ≤ 9223372036854775807; decide), h.t0, h.t1⟩
end Go.Proofs.Ytejjofjhcgdedaa
