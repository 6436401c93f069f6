/- The store's burn, plainly. -/
import Derived.Test.YtejjofjhcgdedaaStoP
import Derived.Test.YtejjofjhcgdedaaSlbL
namespace Go.Proofs.Ytejjofjhcgdedaa
set_option linter.unusedSimpArgs false
set_option linter.unusedVariables false
open Go.RowKit
theorem Slv.burnK_step (x : Slv) (i : Nat) : x.burnK (i + 1) = (match x.burnK i with
      | (y, false) => (y, false)
      | (y, true) => match (gat y.secs i).2 with
        | none => (y, true)
        | some b => if y.out then (y, false) else (⟨y.secs.set i (some b, none), y.stroke.endless, y.stroke.supply, y.stroke.strokes⟩, true)) := rfl
theorem Slv.burnK_ge (x : Slv) {i : Nat} (hi : i < x.secs.length) : ∀ k, k ≤ i → gat (x.burnK k).1.secs i = gat x.secs i
  | 0, _ => rfl
  | k + 1, h => by
    have ih := x.burnK_ge hi k (by omega)
    have hl := x.burnK_len k
    rw [x.burnK_step k]
    generalize x.burnK k = r at ih hl
    obtain ⟨y, b⟩ := r
    cases b with
    | false => exact ih
    | true =>
      dsimp only at ih hl ⊢
      split
      · exact ih
      · split
        · exact ih
        · dsimp only
          rw [gat_setp _ _ _ _ (by omega), if_neg (by omega)]
          exact ih
theorem Slv.burnK_none (x : Slv) {i : Nat} (hi : i < x.secs.length) (hn : (gat x.secs i).2 = none) : ∀ k, gat (x.burnK k).1.secs i = gat x.secs i
  | 0 => rfl
  | k + 1 => by
    have ih := x.burnK_none hi hn k
    have hl := x.burnK_len k
    rw [x.burnK_step k]
    generalize x.burnK k = r at ih hl
    obtain ⟨y, b⟩ := r
    cases b with
    | false => exact ih
    | true =>
      dsimp only at ih hl ⊢
      split
      · exact ih
      · rename_i bb hs
        split
        · exact ih
        · dsimp only
          rw [gat_setp _ _ _ _ (by omega), if_neg (fun e => by subst e; rw [ih, hn] at hs; cases hs)]
          exact ih
/-- where all is burnt -/
theorem Slv.burnK_done (x : Slv) {i : Nat} (hi : i < x.secs.length) : ∀ k, i < k → (x.burnK k).2 = true → gat (x.burnK k).1.secs i = (match (gat x.secs i).2 with | none => gat x.secs i | some b => (some b, none))
  | 0, h, _ => absurd h (by omega)
  | k + 1, h, ht => by
    have hl := x.burnK_len k
    have hge := x.burnK_ge hi k
    have ih := x.burnK_done hi k
    rw [x.burnK_step k] at ht ⊢
    generalize x.burnK k = r at ih hl hge ht
    obtain ⟨y, b⟩ := r
    cases b with
    | false => cases ht
    | true =>
      dsimp only at ih hl hge ht ⊢
      by_cases hik : i = k
      · subst hik
        have he := hge (Nat.le_refl _)
        rw [he] at ht ⊢
        cases hs : (gat x.secs i).2 with
        | none => dsimp only; rw [hs] at ht; exact he
        | some bb =>
          rw [hs] at ht
          dsimp only at ht ⊢
          split at ht
          · cases ht
          · rename_i ho
            rw [if_neg ho]
            dsimp only
            rw [gat_setp _ _ _ _ (by omega), if_pos rfl]
      · have ih' := ih (by omega) rfl
        split
        · exact ih'
        · rename_i bb hs
          rw [hs] at ht
          dsimp only at ht
          split at ht
          · cases ht
          · rename_i ho
            rw [if_neg ho]
            dsimp only
            rw [gat_setp _ _ _ _ (by omega), if_neg (by omega)]
            exact ih'
theorem Slv.burnK_less {x : Slv} (h : x.endless = true) : ∀ k, (x.burnK k).2 = true ∧ (x.burnK k).1.endless = true
  | 0 => ⟨rfl, h⟩
  | k + 1 => by
    have ih := x.burnK_less h k
    rw [x.burnK_step k]
    generalize x.burnK k = r at ih
    obtain ⟨y, b⟩ := r
    obtain ⟨h1, h2⟩ := ih
    dsimp only at h1 h2
    subst h1
    dsimp only
    split
    · exact ⟨rfl, h2⟩
    · rw [Slv.out_endless h2]
      exact ⟨rfl, Slv.stroke_endless h2⟩
theorem Slv.look_in {x : Slv} {n : Int} (h0 : 0 ≤ n) (h1 : n < (x.secs.length : Int)) : x.look n = if x.out then 12 else 0 := by
  unfold Slv.look
  split
  · rfl
  · rw [if_neg (by omega)]
namespace Sto
/-- sectors from one on are inked with these -/
structure Inkd (x : Slv) (first k : Nat) (cs : List (List B8)) (y : Slv) : Prop where
  len : y.secs.length = x.secs.length
  same : ∀ i, i < x.secs.length → ¬ (first ≤ i ∧ i < first + cs.length) → gat y.secs i = gat x.secs i
  ink : ∀ j, j < cs.length → first + j < x.secs.length → (gat y.secs (first + j)).2 = some (gat cs j)
  fit : y.fit (k + cs.length)
  endless : x.endless = true → y.endless = true
theorem Inkd.start {x : Slv} {k : Nat} (first : Nat) (h : x.fit k) : Inkd x first k [] x := ⟨rfl, fun _ _ _ => rfl, fun _ h => absurd h (by simp), h, fun h => h⟩
theorem Inkd.step {x y : Slv} {first k : Nat} {cs : List (List B8)} (h : Inkd x first k cs y) {c : List B8} (hc : c.length = 64) (hin : first + cs.length < x.secs.length) (he : y.inkE ((first + cs.length : Nat) : Int) 64 = 0) :
    Inkd x first k (cs ++ [c]) (y.inked ((first + cs.length : Nat) : Int) c) := by
  have hi : y.inked ((first + cs.length : Nat) : Int) c = ⟨y.secs.set (first + cs.length) ((gat y.secs (first + cs.length)).1, some c), y.stroke.endless, y.stroke.supply, y.stroke.strokes⟩ := by
    unfold Slv.inked
    rw [hc, if_pos he]
    rfl
  have hl := h.len
  refine ⟨?_, ?_, ?_, ?_, ?_⟩
  · rw [Slv.inked_len]; exact h.len
  · intro i hi2 hn
    rw [hi]
    dsimp only
    rw [List.length_append, List.length_singleton] at hn
    rw [gat_setp _ _ _ _ (by omega), if_neg (by omega)]
    exact h.same i hi2 (by omega)
  · intro j hj hj2
    rw [List.length_append, List.length_singleton] at hj
    rw [hi]
    dsimp only
    rw [gat_setp _ _ _ _ (by omega)]
    by_cases hjc : j = cs.length
    · subst hjc
      rw [if_pos rfl, gat_append_right (Nat.le_refl _), Nat.sub_self]
      rfl
    · rw [if_neg (by omega), gat_append_left (by omega)]
      exact h.ink j (by omega) hj2
  · rw [List.length_append, List.length_singleton, ← Nat.add_assoc]
    exact Slv.inked_fit h.fit _ _
  · intro hx
    rw [hi]
    exact Slv.stroke_endless (h.endless hx)
theorem inkE_err {y : Slv} {n : Nat} (h : n < y.secs.length) : y.inkE (n : Int) 64 = 0 ∨ (y.inkE (n : Int) 64 = 12 ∧ y.endless = false) := by
  unfold Slv.inkE
  rw [Slv.look_in (by omega) (by omega)]
  cases ho : y.out with
  | true =>
    right
    refine ⟨rfl, ?_⟩
    cases he : y.endless with
    | true => rw [Slv.out_endless he] at ho; cases ho
    | false => rfl
  | false => left; rfl
/-- how a burning ends, and what it costs -/
structure BrnR (x : Slv) (first k : Nat) (b : List B8) (y : Slv) (e : Int) : Prop where
  brn : Brn x first b y e
  fit : y.fit (k + (b.length + 63) / 64 + x.secs.length)
  endless : x.endless = true → e = 0 ∧ y.endless = true
def chunksB (b : List B8) (l : List Nat) : List (List B8) := l.map fun j => chunkB b j
theorem Inkd.err {x y : Slv} {first k m : Nat} {b : List B8} {cs : List (List B8)} (h : Inkd x first k cs y) (hb : b.length = 64 * m) (hm : cs.length < m) (he : y.endless = false) : BrnR x first k b y 12 := by
  have hq : (b.length + 63) / 64 = m := by omega
  refine ⟨⟨⟨h.len, fun i hi hT => ?_⟩, fun h => absurd h (by decide), .inr rfl⟩, ?_, fun hx => ?_⟩
  · rw [hq] at hT
    exact h.same i hi (by omega)
  · rw [hq]; exact Slv.fit_up h.fit (by omega)
  · rw [h.endless hx] at he; cases he
theorem Inkd.burnt {x y : Slv} {first k m : Nat} {b : List B8} (h : Inkd x first k (chunksB b (List.range m)) y) (hb : b.length = 64 * m) (hc : CleanS x) (hin : first + m ≤ x.secs.length) (h0 : 0 < x.secs.length) : BrnR x first k b y.burnt y.burnE := by
  have hq : (b.length + 63) / 64 = m := by omega
  have hcl : (chunksB b (List.range m)).length = m := by unfold chunksB; simp
  have hl := h.len
  have hlk := Slv.look_in (x := y) (n := 0) (Int.le_refl _) (by omega)
  have hsame := h.same
  have hink := h.ink
  have hfit := h.fit
  rw [hcl] at hsame hink hfit
  cases ho : y.out with
  | true =>
    rw [ho, if_pos rfl] at hlk
    have e1 : y.burnt = y := by unfold Slv.burnt; rw [hlk]; rfl
    have e2 : y.burnE = 12 := by unfold Slv.burnE; rw [hlk]; rfl
    rw [e1, e2]
    refine ⟨⟨⟨h.len, fun i hi hT => ?_⟩, fun h => absurd h (by decide), .inr rfl⟩, ?_, fun hx => ?_⟩
    · rw [hq] at hT; exact hsame i hi hT
    · rw [hq]; exact Slv.fit_up hfit (by omega)
    · rw [Slv.out_endless (h.endless hx)] at ho; cases ho
  | false =>
    rw [ho] at hlk
    have e1 : y.burnt = (y.burnK y.secs.length).1 := by unfold Slv.burnt; rw [hlk]; rfl
    have e2 : y.burnE = if (y.burnK y.secs.length).2 then 0 else 12 := by unfold Slv.burnE; rw [hlk]; rfl
    rw [e1, e2]
    have hone : ∀ i, i < x.secs.length → ¬ (first ≤ i ∧ i < first + m) → (gat y.secs i).2 = none := fun i hi hT => by rw [hsame i hi hT]; exact hc i hi
    refine ⟨⟨⟨(y.burnK_len _).trans h.len, fun i hi hT => ?_⟩, fun hz => ?_, ?_⟩, ?_, fun hx => ?_⟩
    · rw [hq] at hT
      rw [y.burnK_none (by omega) (hone i hi hT)]
      exact hsame i hi hT
    · have ht : (y.burnK y.secs.length).2 = true := by
        cases hh : (y.burnK y.secs.length).2 with
        | true => rfl
        | false => rw [hh] at hz; cases hz
      refine ⟨fun i hi => ?_, fun j hj => ?_⟩
      · have hi2 : i < y.secs.length := by rw [← y.burnK_len y.secs.length]; exact hi
        rw [y.burnK_done hi2 _ hi2 ht]
        cases hs : (gat y.secs i).2 with
        | none => exact hs
        | some bb => rfl
      · have hj2 : j < m := by omega
        rw [y.burnK_done (by omega) _ (by omega) ht, hink j hj2 (by omega)]
        dsimp only
        congr 2
        unfold chunksB
        rw [gat_lt (by simpa using hj2)]
        simp
    · cases (y.burnK y.secs.length).2 <;> simp
    · have := Slv.burnK_fit hfit y.secs.length
      rw [h.len] at this
      rw [hq, h.len]
      exact this
    · have := Slv.burnK_less (h.endless hx) y.secs.length
      rw [this.1]
      exact ⟨rfl, this.2⟩
end Sto
end Go.Proofs.Ytejjofjhcgdedaa
