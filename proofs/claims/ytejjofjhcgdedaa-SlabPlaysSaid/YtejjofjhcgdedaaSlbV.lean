/- The document's slab, plainly, and that it goes with the code's. -/
import Derived.Test.YtejjofjhcgdedaaSlbP
import Derived.Test.YtejjofjhcgdedaaSlbI
namespace Go.Proofs.Ytejjofjhcgdedaa
set_option linter.unusedSimpArgs false
set_option linter.unusedVariables false
open Go.RowKit
/-- the document's slab, plainly: burnt faces; ink by sectors, in any order; strokes left (-1: endless) and made -/
structure Dsl where
  burnt : List (List B8)
  inks : List (Int × List B8)
  supply : Int
  made : Int
/-- what a sector is inked with -/
def ass : List (Int × List B8) → Int → Option (List B8)
  | [], _ => none
  | p :: r, n => if p.1 = n then some p.2 else ass r n
def keysOf (l : List (Int × List B8)) : List Int := l.map (·.1)
theorem ass_none {l : List (Int × List B8)} {n : Int} : ass l n = none ↔ n ∉ keysOf l := by
  induction l with
  | nil => simp [ass, keysOf]
  | cons p r ih =>
    unfold ass
    by_cases h : p.1 = n
    · simp [h, keysOf]
    · have h' : ¬ n = p.1 := fun e => h e.symm
      simp only [h, if_false, ih, keysOf, List.map_cons, List.mem_cons, not_or]
      exact ⟨fun k => ⟨h', k⟩, fun k => k.2⟩
theorem ass_mem {l : List (Int × List B8)} {n : Int} {b : List B8} (hn : (keysOf l).Nodup) (h : (n, b) ∈ l) : ass l n = some b := by
  induction l with
  | nil => cases h
  | cons p r ih =>
    simp only [keysOf, List.map_cons, List.nodup_cons] at hn
    unfold ass
    rcases List.mem_cons.1 h with e | hm
    · rw [← e, if_pos rfl]
    · have : p.1 ≠ n := fun e => hn.1 (by rw [e]; exact List.mem_map.2 ⟨(n, b), hm, rfl⟩)
      rw [if_neg this]
      exact ih hn.2 hm
theorem mem_ass {l : List (Int × List B8)} {n : Int} {b : List B8} (h : ass l n = some b) : (n, b) ∈ l := by
  induction l with
  | nil => cases h
  | cons p r ih =>
    unfold ass at h
    split at h
    · rename_i e
      injection h with h
      rw [← e, ← h]
      exact List.mem_cons_self ..
    · exact List.mem_cons_of_mem _ (ih h)
theorem ass_append {l : List (Int × List B8)} {n m : Int} {b : List B8} : ass (l ++ [(m, b)]) n = match ass l n with | some c => some c | none => if m = n then some b else none := by
  induction l with
  | nil => simp [ass]
  | cons p r ih =>
    show ass (p :: (r ++ [(m, b)])) n = _
    unfold ass
    by_cases h : p.1 = n
    · simp [h]
    · simp only [h, if_false]
      exact ih
/-- where a sector stands among the inked ones -/
def fnd : List (Int × List B8) → Int → Option Nat
  | [], _ => none
  | p :: r, n => if p.1 = n then some 0 else (fnd r n).map (· + 1)
theorem fnd_none {l : List (Int × List B8)} {n : Int} : fnd l n = none ↔ ass l n = none := by
  induction l with
  | nil => simp [fnd, ass]
  | cons p r ih =>
    unfold fnd ass
    by_cases h : p.1 = n
    · simp [h]
    · simp only [h, if_false, Option.map_eq_none_iff, ih]
theorem fnd_some {l : List (Int × List B8)} {n : Int} {i : Nat} (h : fnd l n = some i) : i < l.length ∧ (gat l i).1 = n ∧ ass l n = some (gat l i).2 ∧ ∀ j, j < i → (gat l j).1 ≠ n := by
  induction l generalizing i with
  | nil => cases h
  | cons p r ih =>
    unfold fnd at h
    by_cases hp : p.1 = n
    · rw [if_pos hp] at h
      injection h with h
      subst h
      refine ⟨by simp, by simp [gat, hp], by simp [ass, gat, hp], fun j hj => absurd hj (by omega)⟩
    · rw [if_neg hp] at h
      cases hf : fnd r n with
      | none => rw [hf] at h; cases h
      | some k =>
        rw [hf] at h
        injection h with h
        replace h : k + 1 = i := h
        obtain ⟨h1, h2, h3, h4⟩ := ih hf
        have hg : gat (p :: r) (k + 1) = gat r k := by simp [gat]
        subst h
        refine ⟨by simp only [List.length_cons]; omega, by rw [hg]; exact h2, by rw [hg]; unfold ass; rw [if_neg hp]; exact h3, fun j hj => ?_⟩
        cases j with
        | zero => simpa [gat] using hp
        | succ j =>
          have : gat (p :: r) (j + 1) = gat r j := by simp [gat]
          rw [this]
          exact h4 j (by omega)
/-- first place, all behind it: a lookup of the walk that has come to i -/
theorem fnd_at {l : List (Int × List B8)} {n : Int} {i : Nat} (hi : i < l.length) (h : (gat l i).1 = n) (hb : ∀ j, j < i → (gat l j).1 ≠ n) : fnd l n = some i := by
  induction l generalizing i with
  | nil => exact absurd hi (by simp)
  | cons p r ih =>
    unfold fnd
    cases i with
    | zero => rw [if_pos (by simpa [gat] using h)]
    | succ i =>
      have h0 : p.1 ≠ n := by have := hb 0 (by omega); simpa [gat] using this
      rw [if_neg h0, ih (i := i) (by simpa using hi) (by simpa [gat] using h) (fun j hj => by have := hb (j + 1) (by omega); simpa [gat] using this)]
      rfl
theorem fnd_off {l : List (Int × List B8)} {n : Int} (hb : ∀ j, j < l.length → (gat l j).1 ≠ n) : fnd l n = none := by
  cases h : fnd l n with
  | none => rfl
  | some i => exact absurd (fnd_some h).2.1 (hb i (fnd_some h).1)
theorem set_ass {l : List (Int × List B8)} {n : Int} {i : Nat} {b : List B8} (h : fnd l n = some i) (m : Int) : ass (l.set i (n, b)) m = if n = m then some b else ass l m := by
  induction l generalizing i with
  | nil => cases h
  | cons p r ih =>
    unfold fnd at h
    by_cases hp : p.1 = n
    · rw [if_pos hp] at h
      injection h with h
      rw [← h, List.set_cons_zero]
      unfold ass
      dsimp only
      rw [hp]
      split
      · rfl
      · rfl
    · rw [if_neg hp] at h
      cases hf : fnd r n with
      | none => rw [hf] at h; cases h
      | some k =>
        rw [hf] at h
        injection h with h
        rw [← h, List.set_cons_succ]
        unfold ass
        rw [ih hf]
        by_cases hm : p.1 = m
        · have : n ≠ m := fun e => hp (hm.trans e.symm)
          simp [hm, this]
        · simp [hm]
theorem set_keys {l : List (Int × List B8)} {n : Int} {i : Nat} {b : List B8} (h : fnd l n = some i) : keysOf (l.set i (n, b)) = keysOf l := by
  induction l generalizing i with
  | nil => cases h
  | cons p r ih =>
    unfold fnd at h
    by_cases hp : p.1 = n
    · rw [if_pos hp] at h
      injection h with h
      rw [← h, List.set_cons_zero]
      simp [keysOf, hp]
    · rw [if_neg hp] at h
      cases hf : fnd r n with
      | none => rw [hf] at h; cases h
      | some k =>
        rw [hf] at h
        injection h with h
        rw [← h, List.set_cons_succ]
        simp only [keysOf, List.map_cons]
        exact congrArg (p.1 :: ·) (ih hf)
/-- one ink is taken out -/
theorem erase_ass {l : List (Int × List B8)} {k : Nat} (hk : k < l.length) (hn : (keysOf l).Nodup) (m : Int) : ass (l.eraseIdx k) m = if m = (gat l k).1 then none else ass l m := by
  induction l generalizing k with
  | nil => exact absurd hk (by simp)
  | cons p r ih =>
    simp only [keysOf, List.map_cons, List.nodup_cons] at hn
    cases k with
    | zero =>
      rw [List.eraseIdx_cons_zero]
      have hg : gat (p :: r) 0 = p := by simp [gat]
      rw [hg]
      unfold ass
      by_cases hm : m = p.1
      · rw [if_pos hm, hm]
        have h0 : ass r p.1 = none := ass_none.2 hn.1
        unfold ass at h0
        exact h0
      · have : ¬ p.1 = m := fun e => hm e.symm
        rw [if_neg hm, if_neg this]
        cases r <;> rfl
    | succ k =>
      have hk' : k < r.length := by simpa using hk
      have hg : gat (p :: r) (k + 1) = gat r k := by simp [gat]
      rw [List.eraseIdx_cons_succ, hg]
      show (if p.1 = m then some p.2 else ass (r.eraseIdx k) m) = if m = (gat r k).1 then none else (if p.1 = m then some p.2 else ass r m)
      rw [ih hk' hn.2]
      by_cases hp : p.1 = m
      · have : m ≠ (gat r k).1 := fun e => hn.1 (by rw [hp, e, gat_lt hk']; exact List.mem_map.2 ⟨_, List.getElem_mem _, rfl⟩)
        rw [if_pos hp, if_neg this, if_pos hp]
      · rw [if_neg hp, if_neg hp]
theorem erase_keys {l : List (Int × List B8)} {k : Nat} (hn : (keysOf l).Nodup) : (keysOf (l.eraseIdx k)).Nodup := by
  unfold keysOf at hn ⊢
  exact hn.sublist ((List.eraseIdx_sublist l k).map _)
def Dsl.asked (d : Dsl) (n : Int) : Int := if d.supply = 0 then 12 else if n < 0 ∨ (d.burnt.length : Int) ≤ n then 2 else 0
def Dsl.face (d : Dsl) (n : Nat) : List B8 := match fnd d.inks n with | some i => (gat d.inks i).2 | none => gat d.burnt n
def Dsl.stroke (d : Dsl) : Dsl := ⟨d.burnt, d.inks, if 0 < d.supply then d.supply - 1 else d.supply, d.made + 1⟩
def Dsl.putE (d : Dsl) (n : Int) (l : Nat) : Int := if d.asked n = 0 then (if l = 64 then 0 else 3) else d.asked n
def Dsl.put (d : Dsl) (n : Int) (b : List B8) : Dsl :=
  if d.putE n b.length = 0 then ⟨d.burnt, (match fnd d.inks n with | some i => d.inks.set i (n, b) | none => d.inks ++ [(n, b)]), d.stroke.supply, d.stroke.made⟩ else d
def Dsl.set (d : Dsl) (n : Int) : Dsl := if d.supply = 0 then d else ⟨d.burnt, d.inks, max n (-1), d.made⟩
/-- one and the same slab, the code's and the document's -/
structure SRel (x : Slv) (d : Dsl) : Prop where
  len : d.burnt.length = x.secs.length
  face : ∀ i, i < x.secs.length → gat d.burnt i = faceOf ((gat x.secs i).1, none)
  ink : ∀ i, i < x.secs.length → ass d.inks (i : Int) = (gat x.secs i).2
  key : ∀ n, n ∈ keysOf d.inks → 0 ≤ n ∧ n < (x.secs.length : Int)
  nod : (keysOf d.inks).Nodup
  sup : d.supply = if x.endless then -1 else x.supply
  pos : 0 ≤ x.supply
  made : d.made = x.strokes
section
variable {x : Slv} {d : Dsl}
theorem SRel.out (h : SRel x d) : x.out = decide (d.supply = 0) := by
  unfold Slv.out
  rw [h.sup]
  cases x.endless <;> simp
theorem SRel.look (h : SRel x d) (n : Int) : d.asked n = x.look n := by
  unfold Dsl.asked Slv.look
  rw [h.out, h.len]
  by_cases h0 : d.supply = 0
  · simp [h0]
  · simp [h0]
theorem SRel.stroke (h : SRel x d) (ho : x.out = false) : d.stroke.supply = (if x.stroke.endless then -1 else x.stroke.supply) ∧ 0 ≤ x.stroke.supply ∧ d.stroke.made = x.stroke.strokes := by
  have h0 : d.supply ≠ 0 := by rw [h.out] at ho; simpa using ho
  have hx0 : x.stroke = ⟨x.secs, x.endless, if x.endless then x.supply else x.supply - 1, x.strokes + 1⟩ := by
    unfold Slv.stroke
    rw [if_neg (by rw [ho]; decide)]
  rw [hx0]
  unfold Dsl.stroke
  have hs := h.sup
  have hp := h.pos
  have hm := h.made
  dsimp only
  cases he : x.endless with
  | true =>
    rw [he, if_pos rfl] at hs
    simp only [if_true]
    exact ⟨by rw [if_neg (by omega)]; exact hs, hp, by rw [hm]⟩
  | false =>
    rw [he, if_neg (by decide)] at hs
    have hx : x.supply ≠ 0 := by rw [← hs]; exact h0
    simp only [Bool.false_eq_true, if_false]
    exact ⟨by rw [if_pos (by omega)]; omega, by omega, by rw [hm]⟩
theorem SRel.new (n : Nat) : SRel (Slv.new n) ⟨List.replicate n zero64B, [], -1, 0⟩ := by
  refine ⟨by simp [Slv.new], fun i hi => ?_, fun i hi => ?_, fun n hn => absurd hn (by simp [keysOf]), by simp [keysOf], rfl, (show (0 : Int) ≤ 0 by decide), rfl⟩
  · have hi' : i < n := by simpa [Slv.new] using hi
    rw [gat_lt (by simpa using hi'), List.getElem_replicate]
    unfold Slv.new
    rw [gat_lt (by simpa using hi'), List.getElem_replicate]
    rfl
  · have hi' : i < n := by simpa [Slv.new] using hi
    unfold Slv.new
    rw [gat_lt (by simpa using hi'), List.getElem_replicate]
    rfl
theorem SRel.supplied (h : SRel x d) (n : Int) : SRel (x.supplied n) (d.set n) := by
  unfold Slv.supplied Dsl.set
  rw [h.out]
  by_cases h0 : d.supply = 0
  · simp only [h0, decide_true, if_true]
    exact h
  · simp only [h0, decide_false, if_false, Bool.false_eq_true]
    refine ⟨h.len, h.face, h.ink, h.key, h.nod, ?_, ?_, h.made⟩
    · dsimp only
      by_cases hn : n < 0
      · simp only [hn, decide_true, if_true]; omega
      · simp only [hn, decide_false, if_false, Bool.false_eq_true]; omega
    · dsimp only
      split <;> omega
theorem SRel.put (h : SRel x d) (n : Int) (b : List B8) : SRel (x.inked n b) (d.put n b) ∧ d.putE n b.length = x.inkE n b.length := by
  have hE : d.putE n b.length = x.inkE n b.length := by unfold Dsl.putE Slv.inkE; rw [h.look]
  refine ⟨?_, hE⟩
  unfold Slv.inked Dsl.put
  rw [hE]
  by_cases h0 : x.inkE n b.length = 0
  · rw [if_pos h0, if_pos h0]
    have hl : x.look n = 0 := by
      unfold Slv.inkE at h0
      split at h0
      · assumption
      · exact h0
    have ho : x.out = false := by
      unfold Slv.look at hl
      cases hx : x.out with
      | false => rfl
      | true => rw [hx] at hl; simp at hl
    have hr : 0 ≤ n ∧ n < (x.secs.length : Int) := by
      unfold Slv.look at hl
      rw [ho] at hl
      simp only [Bool.false_eq_true, if_false] at hl
      split at hl
      · cases hl
      · omega
    obtain ⟨q, rfl⟩ := Int.eq_ofNat_of_zero_le hr.1
    have hq : q < x.secs.length := by omega
    obtain ⟨s1, s2, s3⟩ := h.stroke ho
    have hass : ∀ m : Int, ass (match fnd d.inks (q : Int) with | some i => d.inks.set i ((q : Int), b) | none => d.inks ++ [((q : Int), b)]) m = if (q : Int) = m then some b else ass d.inks m := by
      intro m
      cases hf : fnd d.inks (q : Int) with
      | some i => exact set_ass hf m
      | none =>
        dsimp only
        rw [ass_append]
        by_cases hm : (q : Int) = m
        · rw [← hm, fnd_none.1 hf]
        · rw [if_neg hm, if_neg hm]
          cases ass d.inks m <;> rfl
    have hkey : ∀ m, m ∈ keysOf (match fnd d.inks (q : Int) with | some i => d.inks.set i ((q : Int), b) | none => d.inks ++ [((q : Int), b)]) → m ∈ keysOf d.inks ∨ m = (q : Int) := by
      intro m hm
      cases hf : fnd d.inks (q : Int) with
      | some i => rw [hf] at hm; dsimp only at hm; rw [set_keys hf] at hm; exact .inl hm
      | none =>
        rw [hf] at hm
        dsimp only at hm
        unfold keysOf at hm ⊢
        rw [List.map_append, List.mem_append] at hm
        rcases hm with hm | hm
        · exact .inl hm
        · exact .inr (by simpa using hm)
    refine ⟨by simpa using h.len, fun i hi => ?_, fun i hi => ?_, fun m hm => ?_, ?_, s1, s2, s3⟩
    · have hi' : i < x.secs.length := by simpa using hi
      rw [h.face i hi', gat_setp _ _ _ _ hi']
      split
      · rename_i e; subst e; simp
      · rfl
    · have hi' : i < x.secs.length := by simpa using hi
      dsimp only
      rw [hass, gat_setp _ _ _ _ hi']
      by_cases e : q = i
      · subst e; simp
      · rw [if_neg (by omega), if_neg (by simpa using e)]
        exact h.ink i hi'
    · have hl' : ((x.secs.set (q : Int).toNat ((gat x.secs (q : Int).toNat).1, some b)).length : Int) = (x.secs.length : Int) := by simp
      rw [hl']
      rcases hkey m hm with hm | hm
      · exact h.key m hm
      · omega
    · cases hf : fnd d.inks (q : Int) with
      | some i => dsimp only; rw [set_keys hf]; exact h.nod
      | none =>
        dsimp only
        unfold keysOf
        rw [List.map_append, List.nodup_append]
        refine ⟨h.nod, by simp, fun a ha c hc e => ?_⟩
        have h1 : c = (q : Int) := by simpa using hc
        rw [e, h1] at ha
        exact (ass_none.1 (fnd_none.1 hf)) ha
  · rw [if_neg h0, if_neg h0]
    exact h
/-! ### burning -/
theorem Slv.burnK_skip {y : Slv} {i : Nat} (h : x.burnK i = (y, true)) : ∀ m, (∀ j, i ≤ j → j < i + m → (gat y.secs j).2 = none) → x.burnK (i + m) = (y, true)
  | 0, _ => h
  | m + 1, hn => by
    have ih := Slv.burnK_skip h m (fun j h1 h2 => hn j h1 (by omega))
    show x.burnK (i + m + 1) = _
    unfold Slv.burnK
    rw [ih]
    dsimp only
    rw [hn (i + m) (by omega) (by omega)]
theorem Slv.burnK_stay {y : Slv} {i : Nat} (h : x.burnK i = (y, false)) : ∀ m, x.burnK (i + m) = (y, false)
  | 0 => h
  | m + 1 => by
    have ih := Slv.burnK_stay h m
    show x.burnK (i + m + 1) = _
    unfold Slv.burnK
    rw [ih]
/-- the first of the lowest of the first i -/
def lowAt (l : List (Int × List B8)) : Nat → Nat
  | 0 => 0
  | i + 1 => if (gat l i).1 < (gat l (lowAt l i)).1 then i else lowAt l i
theorem lowAt_lt (l : List (Int × List B8)) {n : Nat} (h0 : 0 < n) : ∀ i, i ≤ n → lowAt l i < n
  | 0, _ => h0
  | i + 1, h => by
    have ih := lowAt_lt l h0 i (by omega)
    unfold lowAt
    split <;> omega
theorem lowAt_le (l : List (Int × List B8)) : ∀ i j, j < i → (gat l (lowAt l i)).1 ≤ (gat l j).1
  | 0, j, h => absurd h (by omega)
  | i + 1, j, h => by
    have ih := lowAt_le l i
    unfold lowAt
    split
    · rename_i hlt
      rcases Nat.lt_or_ge j i with hj | hj
      · have := ih j hj; omega
      · obtain rfl : j = i := by omega
        exact Int.le_refl _
    · rename_i hlt
      rcases Nat.lt_or_ge j i with hj | hj
      · exact ih j hj
      · obtain rfl : j = i := by omega
        omega
/-- the lowest ink is burnt -/
def Dsl.burn1 (d : Dsl) : Dsl :=
  ⟨d.burnt.set (gat d.inks (lowAt d.inks d.inks.length)).1.toNat (gat d.inks (lowAt d.inks d.inks.length)).2, d.inks.eraseIdx (lowAt d.inks d.inks.length), d.stroke.supply, d.stroke.made⟩
def Dsl.burnN : Nat → Dsl → Dsl × Int
  | 0, d => (d, 0)
  | f + 1, d => if d.inks = [] then (d, 0) else if d.supply = 0 then (d, 12) else Dsl.burnN f d.burn1
def Dsl.burn (d : Dsl) : Dsl × Int := if d.supply = 0 then (d, 12) else Dsl.burnN d.inks.length d
theorem Dsl.burn1_len (h : d.inks ≠ []) : d.burn1.inks.length = d.inks.length - 1 := by
  unfold Dsl.burn1
  dsimp only
  rw [List.length_eraseIdx_of_lt (lowAt_lt _ (List.length_pos_iff.2 h) _ (Nat.le_refl _))]
theorem SRel.burn1 (h : SRel x d) (ho : x.out = false) {m : Nat} {b : List B8} (hm : m < x.secs.length) (hk : lowAt d.inks d.inks.length < d.inks.length) (hg : gat d.inks (lowAt d.inks d.inks.length) = ((m : Int), b)) :
    SRel ⟨x.secs.set m (some b, none), x.stroke.endless, x.stroke.supply, x.stroke.strokes⟩ d.burn1 := by
  obtain ⟨s1, s2, s3⟩ := h.stroke ho
  unfold Dsl.burn1
  rw [hg]
  dsimp only
  rw [Int.toNat_natCast]
  have hass : ∀ n : Int, ass (d.inks.eraseIdx (lowAt d.inks d.inks.length)) n = if n = (m : Int) then none else ass d.inks n := by
    intro n
    rw [erase_ass hk h.nod, hg]
  refine ⟨by simpa using h.len, fun i hi => ?_, fun i hi => ?_, fun n hn => ?_, erase_keys h.nod, s1, s2, s3⟩
  · have hi' : i < x.secs.length := by simpa using hi
    have hb : i < d.burnt.length := by rw [h.len]; exact hi'
    dsimp only
    rw [gat_setp _ _ _ _ hb, gat_setp _ _ _ _ hi']
    split
    · rfl
    · exact h.face i hi'
  · have hi' : i < x.secs.length := by simpa using hi
    dsimp only
    rw [hass, gat_setp _ _ _ _ hi']
    by_cases e : m = i
    · subst e; simp
    · rw [if_neg (by omega), if_neg e]
      exact h.ink i hi'
  · have hl' : ((x.secs.set m (some b, none)).length : Int) = (x.secs.length : Int) := by simp
    dsimp only at hn ⊢
    rw [hl']
    refine h.key n ?_
    unfold keysOf at hn ⊢
    exact ((List.eraseIdx_sublist _ _).map _).subset hn
theorem SRel.inks_nil (h : SRel x d) (hi : d.inks = []) {i : Nat} (hl : i < x.secs.length) : (gat x.secs i).2 = none := by
  rw [← h.ink i hl, hi]
  rfl
theorem burn_sim (N : Nat) : ∀ (f i : Nat) (x0 y : Slv) (d : Dsl), x0.secs.length = N → i ≤ N → x0.burnK i = (y, true) → SRel y d → (∀ j, j < i → (gat y.secs j).2 = none) → d.inks.length ≤ f →
    SRel (x0.burnK N).1 (Dsl.burnN f d).1 ∧ (Dsl.burnN f d).2 = (if (x0.burnK N).2 then 0 else 12)
  | f, i, x0, y, d, hN, hi, hb, hr, hlow, hf => by
    have hyN : y.secs.length = N := by have := x0.burnK_len i; rw [hb] at this; exact this.trans hN
    by_cases hd : d.inks = []
    · have hskip := Slv.burnK_skip hb (N - i) (fun j _ h2 => hr.inks_nil hd (by rw [hyN]; omega))
      rw [show i + (N - i) = N by omega] at hskip
      have hB : Dsl.burnN f d = (d, 0) := by
        cases f with
        | zero => rfl
        | succ f => unfold Dsl.burnN; rw [if_pos hd]
      rw [hB, hskip]
      exact ⟨hr, rfl⟩
    · have hpos := List.length_pos_iff.2 hd
      cases f with
      | zero => exact absurd hf (by omega)
      | succ f =>
        obtain ⟨k, hkd⟩ : ∃ k, k = lowAt d.inks d.inks.length := ⟨_, rfl⟩
        have hk : k < d.inks.length := by rw [hkd]; exact lowAt_lt _ hpos _ (Nat.le_refl _)
        obtain ⟨n, b, hg⟩ : ∃ n b, gat d.inks k = (n, b) := ⟨_, _, rfl⟩
        have hmem : (n, b) ∈ d.inks := by rw [← hg, gat_lt hk]; exact List.getElem_mem _
        have hkey := hr.key n (List.mem_map.2 ⟨_, hmem, rfl⟩)
        obtain ⟨m, rfl⟩ := Int.eq_ofNat_of_zero_le hkey.1
        have hmN : m < y.secs.length := by omega
        have hink : (gat y.secs m).2 = some b := by rw [← hr.ink m hmN]; exact ass_mem hr.nod hmem
        have him : i ≤ m := by
          rcases Nat.lt_or_ge m i with h1 | h1
          · rw [hlow m h1] at hink; cases hink
          · exact h1
        have hbetween : ∀ j, j < m → (gat y.secs j).2 = none := by
          intro j hj
          cases hc : (gat y.secs j).2 with
          | none => rfl
          | some c =>
            rw [← hr.ink j (by omega)] at hc
            obtain ⟨q, hq, hqe⟩ := List.getElem_of_mem (mem_ass hc)
            have hle := lowAt_le d.inks d.inks.length q hq
            rw [← hkd, hg, gat_lt hq, hqe] at hle
            dsimp only at hle
            omega
        have hbm := Slv.burnK_skip hb (m - i) (fun j _ h2 => hbetween j (by omega))
        rw [show i + (m - i) = m by omega] at hbm
        unfold Dsl.burnN
        rw [if_neg hd]
        have hout := hr.out
        by_cases hs : d.supply = 0
        · rw [if_pos hs]
          have hb1 : x0.burnK (m + 1) = (y, false) := by
            unfold Slv.burnK
            rw [hbm]
            dsimp only
            rw [hink]
            dsimp only
            rw [hout, hs, if_pos (by decide)]
          have hst := Slv.burnK_stay hb1 (N - (m + 1))
          rw [show m + 1 + (N - (m + 1)) = N by omega] at hst
          rw [hst]
          exact ⟨hr, rfl⟩
        · rw [if_neg hs]
          have ho : y.out = false := by rw [hout]; exact decide_eq_false hs
          have hb1 : x0.burnK (m + 1) = (⟨y.secs.set m (some b, none), y.stroke.endless, y.stroke.supply, y.stroke.strokes⟩, true) := by
            unfold Slv.burnK
            rw [hbm]
            dsimp only
            rw [hink]
            dsimp only
            rw [ho, if_neg (by decide)]
          have hr1 := hr.burn1 ho hmN (by rw [← hkd]; exact hk) (by rw [← hkd]; exact hg)
          refine burn_sim N f (m + 1) x0 _ d.burn1 hN (by omega) hb1 hr1 (fun j hj => ?_) (by rw [Dsl.burn1_len hd]; omega)
          dsimp only
          rw [gat_setp _ _ _ _ (by omega)]
          split
          · rfl
          · exact hbetween j (by omega)
theorem SRel.burn (h : SRel x d) (hp : 0 < x.secs.length) : SRel x.burnt d.burn.1 ∧ d.burn.2 = x.burnE := by
  unfold Slv.burnt Slv.burnE Dsl.burn
  have hl := h.look 0
  by_cases hs : d.supply = 0
  · have hlk : x.look 0 = 12 := by rw [← hl]; unfold Dsl.asked; rw [if_pos hs]
    rw [if_pos hs, hlk, if_neg (by decide), if_neg (by decide)]
    exact ⟨h, rfl⟩
  · have hlk : x.look 0 = 0 := by
      rw [← hl]
      unfold Dsl.asked
      rw [if_neg hs, if_neg (by rw [h.len]; omega)]
    rw [if_neg hs, hlk, if_pos rfl, if_pos rfl]
    exact burn_sim x.secs.length d.inks.length 0 x x d rfl (Nat.zero_le _) rfl h (fun j hj => absurd hj (by omega)) (Nat.le_refl _)
/-! ### waking -/
def Dsl.scar (d : Dsl) (s : Int × List B8) : Dsl := match fnd d.inks s.1 with | some _ => ⟨d.burnt.set s.1.toNat (onto zero64B s.2), d.inks, d.supply, d.made⟩ | none => d
def Dsl.scars (d : Dsl) (l : List (Int × List B8)) : Dsl := l.foldl Dsl.scar d
def Dsl.woken (d : Dsl) (l : List (Int × List B8)) : Dsl := ⟨(d.scars l).burnt, [], -1, d.made⟩
theorem SRel.scars (h : SRel x d) : ∀ l : List (Int × List B8), (d.scars l).inks = d.inks ∧ (d.scars l).burnt.length = x.secs.length ∧ ∀ i, i < x.secs.length → gat (d.scars l).burnt i = faceOf ((wokeSec (gat x.secs i) (lastScar l i)).1, none) := by
  intro l
  generalize hk : l.length = k
  induction k generalizing l with
  | zero =>
    obtain rfl := List.length_eq_zero_iff.1 hk
    refine ⟨rfl, h.len, fun i hi => ?_⟩
    show gat d.burnt i = _
    rw [h.face i hi]
    unfold wokeSec lastScar
    cases (gat x.secs i).2 <;> rfl
  | succ k ih =>
    obtain ⟨r, s, rfl⟩ : ∃ r s, l = r ++ [s] := ⟨l.dropLast, l.getLast (by intro e; rw [e] at hk; cases hk), (List.dropLast_concat_getLast _).symm⟩
    obtain ⟨i1, i2, i3⟩ := ih r (by simpa using hk)
    have hs : d.scars (r ++ [s]) = (d.scars r).scar s := by unfold Dsl.scars; rw [List.foldl_append]; rfl
    rw [hs]
    unfold Dsl.scar
    rw [i1]
    cases hf : fnd d.inks s.1 with
    | none =>
      refine ⟨i1, i2, fun i hi => ?_⟩
      dsimp only
      rw [i3 i hi, lastScar_snoc]
      by_cases e : s.1 = (i : Int)
      · have hn : (gat x.secs i).2 = none := by rw [← h.ink i hi, ← e]; exact fnd_none.1 hf
        unfold wokeSec
        rw [hn]
      · rw [if_neg e]
    | some q =>
      obtain ⟨f1, f2, f3, -⟩ := fnd_some hf
      have hkey := h.key s.1 (by
        have := mem_ass f3
        exact List.mem_map.2 ⟨_, this, rfl⟩)
      refine ⟨rfl, by simpa using i2, fun i hi => ?_⟩
      dsimp only
      rw [gat_setp _ _ _ _ (by rw [i2]; exact hi), lastScar_snoc]
      by_cases e : s.1 = (i : Int)
      · rw [if_pos e, if_pos (by rw [e]; simp)]
        have hn : (gat x.secs i).2 = some (gat d.inks q).2 := by rw [← h.ink i hi, ← e]; exact f3
        unfold wokeSec
        rw [hn]
        rfl
      · rw [if_neg e, if_neg (by omega)]
        exact i3 i hi
theorem SRel.woken (h : SRel x d) (l : List (Int × List B8)) : SRel (x.woken l) (d.woken l) := by
  obtain ⟨h1, h2, h3⟩ := h.scars l
  refine ⟨by rw [x.woken_len]; exact h2, fun i hi => ?_, fun i hi => ?_, fun n hn => absurd hn (by simp [keysOf, Dsl.woken]), by simp [keysOf, Dsl.woken], rfl, (show (0 : Int) ≤ 0 by decide), h.made⟩
  · rw [x.woken_len] at hi
    rw [x.woken_at l hi]
    exact h3 i hi
  · rw [x.woken_len] at hi
    rw [x.woken_at l hi]
    show none = _
    unfold wokeSec
    split <;> rfl
/-! ### what is told -/
theorem SRel.faceN (h : SRel x d) {i : Nat} (hi : i < x.secs.length) : d.face i = faceOf (gat x.secs i) := by
  unfold Dsl.face
  have hk := h.ink i hi
  cases hf : fnd d.inks (i : Int) with
  | some q =>
    rw [(fnd_some hf).2.2.1] at hk
    dsimp only
    unfold faceOf
    rw [← hk]
  | none =>
    rw [fnd_none.1 hf] at hk
    dsimp only
    rw [h.face i hi]
    unfold faceOf
    rw [← hk]
theorem nodup_len {a b : List Int} (ha : a.Nodup) (hab : ∀ n, n ∈ a → n ∈ b) : a.length ≤ b.length := by
  induction a generalizing b with
  | nil => exact Nat.zero_le _
  | cons x r ih =>
    have hx := hab x (List.mem_cons_self ..)
    rw [List.nodup_cons] at ha
    have h1 := ih (b := b.erase x) ha.2 (fun n hn => by
      have hne : n ≠ x := fun e => ha.1 (e ▸ hn)
      exact (List.mem_erase_of_ne hne).2 (hab n (List.mem_cons_of_mem _ hn)))
    have h2 := List.length_erase_of_mem hx
    have h3 := List.length_pos_of_mem hx
    simp only [List.length_cons]
    omega
theorem SRel.count (h : SRel x d) : (inkedK x x.secs.length).length = d.inks.length := by
  have hl : (keysOf d.inks).length = d.inks.length := by simp [keysOf]
  have hmem : ∀ n, n ∈ inkedK x x.secs.length ↔ n ∈ keysOf d.inks := by
    intro n
    unfold inkedK
    rw [List.mem_map]
    constructor
    · rintro ⟨i, hi, rfl⟩
      rw [List.mem_filter, List.mem_range] at hi
      have h1 := h.ink i hi.1
      cases hc : (gat x.secs i).2 with
      | none => rw [hc] at hi; exact absurd hi.2 (by decide)
      | some b =>
        rw [hc] at h1
        exact List.mem_map.2 ⟨_, mem_ass h1, rfl⟩
    · intro hn
      obtain ⟨k1, k2⟩ := h.key n hn
      obtain ⟨i, rfl⟩ := Int.eq_ofNat_of_zero_le k1
      have hi : i < x.secs.length := by omega
      refine ⟨i, ?_, rfl⟩
      rw [List.mem_filter, List.mem_range]
      refine ⟨hi, ?_⟩
      have h1 := h.ink i hi
      cases hc : (gat x.secs i).2 with
      | none => rw [hc] at h1; exact absurd hn (ass_none.1 h1)
      | some b => rfl
  have hnd : (inkedK x x.secs.length).Nodup := by
    unfold inkedK
    refine List.Pairwise.map _ (fun a b (hab : a ≠ b) e => hab (Int.ofNat.inj e)) ?_
    exact List.nodup_range.filter _
  rw [← hl]
  exact Nat.le_antisymm (nodup_len hnd (fun n hn => (hmem n).1 hn)) (nodup_len h.nod (fun n hn => (hmem n).2 hn))
end
end Go.Proofs.Ytejjofjhcgdedaa
