/- A slab, plainly: an endless one; a supply that is counted. -/
import Derived.Test.YtejjofjhcgdedaaSlbP
namespace Go.Proofs.Ytejjofjhcgdedaa
set_option linter.unusedSimpArgs false
set_option linter.unusedVariables false
open Go.RowKit
def pl64 (x : B8) : List B8 := List.replicate 64 x
theorem pl64_len (x : B8) : (pl64 x).length = 64 := by simp [pl64]
theorem secs_ext {a b : List (Option (List B8) × Option (List B8))} (h : a.length = b.length) (hg : ∀ i, i < a.length → gat a i = gat b i) : a = b := by
  refine List.ext_getElem h fun i h1 h2 => ?_
  have := hg i h1
  rwa [gat_lt h1, gat_lt h2] at this
/-! ### an endless slab -/
section
variable {x : Slv}
theorem Slv.out_endless (h : x.endless = true) : x.out = false := by unfold Slv.out; rw [h]; rfl
theorem Slv.look_endless (h : x.endless = true) {n : Int} (h0 : 0 ≤ n) (h1 : n < (x.secs.length : Int)) : x.look n = 0 := by
  unfold Slv.look
  rw [Slv.out_endless h, if_neg (by decide), if_neg (by omega)]
theorem Slv.stroke_endless (h : x.endless = true) : x.stroke.endless = true := by
  unfold Slv.stroke
  rw [Slv.out_endless h, if_neg (by decide)]
  exact h
theorem Slv.inkE_endless (h : x.endless = true) {n : Int} (h0 : 0 ≤ n) (h1 : n < (x.secs.length : Int)) : x.inkE n 64 = 0 := by
  unfold Slv.inkE
  rw [Slv.look_endless h h0 h1, if_pos rfl, if_pos rfl]
theorem Slv.inked_endless (h : x.endless = true) {n : Nat} (h1 : n < x.secs.length) {c : List B8} (hc : c.length = 64) : (x.inked (n : Int) c).endless = true ∧ (x.inked (n : Int) c).secs = x.secs.set n ((gat x.secs n).1, some c) := by
  unfold Slv.inked
  rw [hc, Slv.inkE_endless h (by omega) (by omega), if_pos rfl]
  exact ⟨Slv.stroke_endless h, rfl⟩
def burnSec (s : Option (List B8) × Option (List B8)) : Option (List B8) × Option (List B8) := match s.2 with
  | some b => (some b, none)
  | none => s
theorem Slv.burnK_endless (h : x.endless = true) : ∀ i, i ≤ x.secs.length → (x.burnK i).2 = true ∧ (x.burnK i).1.endless = true ∧ ∀ j, j < x.secs.length → gat (x.burnK i).1.secs j = if j < i then burnSec (gat x.secs j) else gat x.secs j
  | 0, _ => ⟨rfl, h, fun j _ => by rw [if_neg (by omega)]; rfl⟩
  | i + 1, hi => by
    have ih := Slv.burnK_endless h i (by omega)
    have hl := x.burnK_len i
    unfold Slv.burnK
    generalize x.burnK i = r at ih hl
    obtain ⟨y, b⟩ := r
    obtain ⟨h1, h2, h3⟩ := ih
    dsimp only at h1 h2 h3 hl
    subst h1
    dsimp only
    have hyi : gat y.secs i = gat x.secs i := by rw [h3 i (by omega), if_neg (by omega)]
    split
    · rename_i hs
      refine ⟨rfl, h2, fun j hj => ?_⟩
      dsimp only
      rw [h3 j hj]
      by_cases hji : j = i
      · subst hji
        rw [if_neg (by omega), if_pos (by omega)]
        unfold burnSec
        rw [hyi] at hs
        rw [hs]
      · by_cases hlt : j < i
        · rw [if_pos hlt, if_pos (by omega)]
        · rw [if_neg hlt, if_neg (by omega)]
    · rename_i bb hs
      rw [Slv.out_endless h2, if_neg (by decide)]
      refine ⟨rfl, Slv.stroke_endless h2, fun j hj => ?_⟩
      dsimp only
      rw [gat_setp _ _ _ _ (by omega)]
      by_cases hji : i = j
      · subst hji
        rw [if_pos rfl, if_pos (by omega)]
        unfold burnSec
        rw [hyi] at hs
        rw [hs]
      · rw [if_neg hji, h3 j hj]
        by_cases hlt : j < i
        · rw [if_pos hlt, if_pos (by omega)]
        · rw [if_neg hlt, if_neg (by omega)]
theorem Slv.burnt_endless (h : x.endless = true) (h0 : 0 < x.secs.length) : x.burnE = 0 ∧ x.burnt.endless = true ∧ ∀ j, j < x.secs.length → gat x.burnt.secs j = burnSec (gat x.secs j) := by
  obtain ⟨h1, h2, h3⟩ := Slv.burnK_endless h x.secs.length (Nat.le_refl _)
  have hlk := Slv.look_endless h (n := 0) (by omega) (by omega)
  unfold Slv.burnE Slv.burnt
  rw [if_pos hlk, if_pos hlk, if_pos h1]
  exact ⟨rfl, h2, fun j hj => by rw [h3 j hj, if_pos hj]⟩
end
/-! ### a supply that is counted -/
/-- I sectors are inked, of which the first b are burnt; of a supply of S strokes i + b are made -/
def cntSec (i b j : Nat) : Option (List B8) × Option (List B8) := if j < b then (some (pl64 (BitVec.ofNat 8 (j + 1))), none) else if j < i then (none, some (pl64 (BitVec.ofNat 8 (j + 1)))) else (none, none)
def Slv.cnt (S i b : Nat) : Slv := ⟨(List.range 64).map (cntSec i b), false, (S : Int) - i - b, (i : Int) + b⟩
theorem Slv.cnt_len (S i b : Nat) : (Slv.cnt S i b).secs.length = 64 := by simp [Slv.cnt]
theorem Slv.cnt_at (S i b : Nat) {j : Nat} (hj : j < 64) : gat (Slv.cnt S i b).secs j = cntSec i b j := by
  unfold Slv.cnt
  rw [gat_lt (by simpa using hj)]
  simp
theorem Slv.cnt_new (S : Nat) : (Slv.new 64).supplied (S : Int) = Slv.cnt S 0 0 := by
  unfold Slv.supplied
  rw [Slv.out_endless rfl, if_neg (by decide)]
  unfold Slv.cnt
  have : (Slv.new 64).secs = (List.range 64).map (cntSec 0 0) := by decide
  rw [this, decide_eq_false (by omega), if_neg (by omega)]
  simp [Slv.new]
theorem Slv.cnt_out (S i b : Nat) : (Slv.cnt S i b).out = decide ((S : Int) - i - b = 0) := by unfold Slv.out Slv.cnt; rfl
theorem Slv.cnt_ink {S i : Nat} (hi : i < 64) : (Slv.cnt S (min i S) 0).inkE (i : Int) 64 = (if i < S then 0 else 12) ∧ (Slv.cnt S (min i S) 0).inked (i : Int) (pl64 (BitVec.ofNat 8 (i + 1))) = Slv.cnt S (min (i + 1) S) 0 := by
  by_cases h : i < S
  · have hm : min i S = i := by omega
    have hm1 : min (i + 1) S = i + 1 := by omega
    rw [hm, hm1, if_pos h]
    have ho : (Slv.cnt S i 0).out = false := by rw [Slv.cnt_out]; exact decide_eq_false (by omega)
    have hE : (Slv.cnt S i 0).inkE (i : Int) 64 = 0 := by
      have hlk : (Slv.cnt S i 0).look (i : Int) = 0 := by
        unfold Slv.look
        rw [ho, Slv.cnt_len, if_neg (by decide), if_neg (by omega)]
      unfold Slv.inkE
      rw [hlk, if_pos rfl, if_pos rfl]
    refine ⟨hE, ?_⟩
    unfold Slv.inked
    rw [pl64_len, hE, if_pos rfl]
    have hs : (Slv.cnt S i 0).stroke = ⟨(Slv.cnt S i 0).secs, false, (S : Int) - (i + 1 : Nat) - (0 : Nat), ((i + 1 : Nat) : Int) + (0 : Nat)⟩ := by
      unfold Slv.stroke
      rw [ho, if_neg (by decide)]
      unfold Slv.cnt
      simp
      omega
    rw [hs]
    unfold Slv.cnt
    simp only [Slv.mk.injEq, and_true, true_and]
    refine secs_ext (by simp) fun j hj => ?_
    simp at hj
    rw [gat_setp _ _ _ _ (by simpa using hj)]
    have hg : ∀ k, k < 64 → ∀ a b, gat ((List.range 64).map (cntSec a b)) k = cntSec a b k := fun k hk a b => by rw [gat_lt (by simpa using hk)]; simp
    rw [hg j hj, hg j hj]
    simp only [Int.toNat_natCast]
    rw [hg i hi]
    by_cases hij : i = j
    · subst hij
      rw [if_pos rfl]
      unfold cntSec
      rw [if_neg (by omega), if_neg (by omega), if_neg (by omega), if_pos (by omega)]
    · rw [if_neg hij]
      unfold cntSec
      by_cases hlt : j < i
      · simp [hlt, show j < i + 1 by omega]
      · simp [hlt, show ¬ j < i + 1 by omega]
  · have hm : min i S = S := by omega
    have hm1 : min (i + 1) S = S := by omega
    rw [hm, hm1, if_neg h]
    have ho : (Slv.cnt S S 0).out = true := by rw [Slv.cnt_out]; exact decide_eq_true (by omega)
    have hE : ∀ l, (Slv.cnt S S 0).inkE (i : Int) l = 12 := fun l => by
      have hlk : (Slv.cnt S S 0).look (i : Int) = 12 := by
        unfold Slv.look
        rw [ho, if_pos rfl]
      unfold Slv.inkE
      rw [hlk, if_neg (by decide)]
    exact ⟨hE _, by unfold Slv.inked; rw [hE, if_neg (by decide)]⟩
theorem Slv.cnt_burnK {S I : Nat} (hI : I ≤ 64) (hS : I < S) : ∀ k, k ≤ 64 → (Slv.cnt S I 0).burnK k = (Slv.cnt S I (min (min k I) (S - I)), decide (min k I ≤ S - I))
  | 0, _ => by simp [Slv.burnK]
  | k + 1, hk => by
    unfold Slv.burnK
    rw [Slv.cnt_burnK hI hS k (by omega)]
    by_cases hd : min k I ≤ S - I
    · rw [decide_eq_true hd, Nat.min_eq_left hd]
      dsimp only
      rw [Slv.cnt_at _ _ _ (by omega)]
      by_cases hkI : k < I
      · have e1 : min k I = k := by omega
        have e2 : min (k + 1) I = k + 1 := by omega
        rw [e1, e2]
        have hc : cntSec I k k = (none, some (pl64 (BitVec.ofNat 8 (k + 1)))) := by unfold cntSec; rw [if_neg (by omega), if_pos hkI]
        rw [hc]
        dsimp only
        rw [Slv.cnt_out]
        by_cases hlt : k < S - I
        · have ho : decide ((S : Int) - I - k = 0) = false := decide_eq_false (by omega)
          rw [ho, if_neg (by decide), decide_eq_true (show k + 1 ≤ S - I by omega), Nat.min_eq_left (show k + 1 ≤ S - I by omega)]
          have hs : (Slv.cnt S I k).stroke = ⟨(Slv.cnt S I k).secs, false, (S : Int) - I - (k + 1 : Nat), (I : Int) + (k + 1 : Nat)⟩ := by
            unfold Slv.stroke
            rw [Slv.cnt_out, ho, if_neg (by decide)]
            unfold Slv.cnt
            simp
            omega
          rw [hs]
          simp only [Prod.mk.injEq, and_true]
          unfold Slv.cnt
          simp only [Slv.mk.injEq, and_true, true_and]
          refine secs_ext (by simp) fun j hj => ?_
          simp at hj
          rw [gat_setp _ _ _ _ (by simpa using hj)]
          have hg : ∀ k, k < 64 → ∀ a b, gat ((List.range 64).map (cntSec a b)) k = cntSec a b k := fun k hk a b => by rw [gat_lt (by simpa using hk)]; simp
          rw [hg j hj, hg j hj]
          by_cases hij : k = j
          · subst hij
            rw [if_pos rfl]
            unfold cntSec
            rw [if_pos (by omega)]
          · rw [if_neg hij]
            unfold cntSec
            by_cases hlt : j < k
            · rw [if_pos hlt, if_pos (by omega)]
            · rw [if_neg hlt, if_neg (show ¬ j < k + 1 by omega)]
        · have ho : decide ((S : Int) - I - k = 0) = true := decide_eq_true (by omega)
          rw [ho, if_pos rfl, decide_eq_false (show ¬ k + 1 ≤ S - I by omega), Nat.min_eq_right (show S - I ≤ k + 1 by omega)]
          have : S - I = k := by omega
          rw [this]
      · have e1 : min k I = I := by omega
        have e2 : min (k + 1) I = I := by omega
        rw [e1] at hd ⊢
        rw [e2]
        have hc : cntSec I I k = (none, none) := by unfold cntSec; rw [if_neg (by omega), if_neg (by omega)]
        rw [hc, decide_eq_true hd, Nat.min_eq_left hd]
    · rw [decide_eq_false hd]
      dsimp only
      have : ¬ min (k + 1) I ≤ S - I := by omega
      rw [decide_eq_false this, Nat.min_eq_right (by omega), Nat.min_eq_right (by omega)]
/-- what burning answers and leaves -/
theorem Slv.cnt_burnt {S I : Nat} (hI : I ≤ 64) : (Slv.cnt S (min I S) 0).burnE = (if I < S ∧ I ≤ S - I then 0 else 12) ∧ (Slv.cnt S (min I S) 0).burnt = Slv.cnt S (min I S) (min I (S - I)) := by
  by_cases h : I < S
  · have hm : min I S = I := by omega
    rw [hm]
    have hlk : (Slv.cnt S I 0).look 0 = 0 := by
      unfold Slv.look
      rw [Slv.cnt_out, Slv.cnt_len, decide_eq_false (by omega), if_neg (by decide), if_neg (by omega)]
    have hk := Slv.cnt_burnK hI h 64 (Nat.le_refl _)
    have e : min 64 I = I := by omega
    rw [e] at hk
    unfold Slv.burnE Slv.burnt
    rw [if_pos hlk, if_pos hlk, Slv.cnt_len, hk]
    refine ⟨?_, rfl⟩
    dsimp only
    by_cases h2 : I ≤ S - I
    · rw [decide_eq_true h2, if_pos rfl, if_pos ⟨h, h2⟩]
    · rw [decide_eq_false h2, if_neg (by decide), if_neg (fun h => h2 h.2)]
  · have hm : min I S = S := by omega
    have hz : min I (S - I) = 0 := by omega
    rw [hm, hz, if_neg (fun h' => h h'.1)]
    have hlk : (Slv.cnt S S 0).look 0 = 12 := by
      unfold Slv.look
      rw [Slv.cnt_out, decide_eq_true (by omega), if_pos rfl]
    unfold Slv.burnE Slv.burnt
    rw [hlk, if_neg (by decide), if_neg (by decide)]
    exact ⟨rfl, rfl⟩
theorem Slv.woken_nil (x : Slv) {i : Nat} (h : i < x.secs.length) : gat (x.woken []).secs i = ((gat x.secs i).1, none) := by
  rw [Slv.woken_at _ _ h]
  unfold wokeSec lastScar
  split
  · rename_i h1; cases h1
  · rfl
end Go.Proofs.Ytejjofjhcgdedaa
