/- A saving, plainly: its three steps, and what wakes behind each. -/
import Derived.Test.YtejjofjhcgdedaaSto9
namespace Go.Proofs.Ytejjofjhcgdedaa
set_option linter.unusedSimpArgs false
set_option linter.unusedVariables false
open Go.RowKit Go.Shelf
open Sha
attribute [local irreducible] Sha.sum
namespace Sto
theorem SameS.mono {T T' : Nat → Prop} {x y : Slv} (h : SameS T x y) (hT : ∀ i, i < x.secs.length → T i → T' i) : SameS T' x y := ⟨h.1, fun i hi hn => h.2 i hi (fun ht => hn (hT i hi ht))⟩
theorem SameS.refl (T : Nat → Prop) (x : Slv) : SameS T x x := ⟨rfl, fun _ _ _ => rfl⟩
/-- a flag put down: how it may end -/
structure LowR (x : Slv) (p k : Nat) (y : Slv) (er : Int) : Prop where
  same : SameS (fun i => i = p) x y
  ok : er = 0 → CleanS y ∧ faceN y p = zero64B
  err : er = 0 ∨ er = 12
  fit : y.fit (k + 1 + x.secs.length)
  endless : x.endless = true → er = 0 ∧ y.endless = true
  or_ : y = x ∨ faceN x p ≠ zero64B
theorem LowR.out {x : Slv} {p k : Nat} (ho : x.out = true) (hx : x.fit k) : LowR x p k x 12 :=
  ⟨.refl _ _, fun h => absurd h (by decide), .inr rfl, Slv.fit_up hx (by omega), fun he => by rw [Slv.out_endless he] at ho; (cases ho), .inl rfl⟩
theorem LowR.down {x : Slv} {p k : Nat} (hz : faceN x p = zero64B) (hx : x.fit k) (hc : CleanS x) : LowR x p k x 0 :=
  ⟨.refl _ _, fun _ => ⟨hc, hz⟩, .inl rfl, Slv.fit_up hx (by omega), fun he => ⟨rfl, he⟩, .inl rfl⟩
theorem chunk_zero64 : chunkB (List.replicate 64 (default : B8)) 0 = zero64B := by decide
theorem LowR.burnt {x y : Slv} {p k : Nat} {er : Int} (hz : faceN x p ≠ zero64B) (h : BrnR x p k (List.replicate 64 (default : B8)) y er) : LowR x p k y er := by
  have hl : (List.replicate 64 (default : B8)).length = 64 := List.length_replicate
  have hs := h.brn.same
  have hf := h.fit
  rw [hl] at hs hf
  refine ⟨hs.mono (fun i _ hT => by omega), fun h0 => ?_, h.brn.err, Slv.fit_up hf (by omega), h.endless, .inr hz⟩
  obtain ⟨h1, h2⟩ := h.brn.ok h0
  have h3 := h2 0 (by rw [hl]; omega)
  rw [Nat.add_zero] at h3
  exact ⟨h1, by rw [faceN_some h3, chunk_zero64]⟩
/-- behind the first step -/
structure Stp (x : Slv) (k : Nat) (st : List B8) (y : Slv) : Prop where
  clean : CleanS y
  len : y.secs.length = x.secs.length
  fnd : FndS Sha.sum (faceN y) x.secs.length k st
  low : faceN y ((k + 1) % 2) = zero64B
section
variable {x y z : Slv} {k kk : Nat} {st next : List B8} {er : Int}
theorem FndS.low (h : FndS Sha.sum (faceN x) x.secs.length k st) (hS : 4 ≤ x.secs.length) (hl : LowR x ((k + 1) % 2) kk y er) {z : Slv} (hz : SameS (fun i => i = (k + 1) % 2) y z) (hyz : y = x → SameS (fun _ => False) x z) : FndS Sha.sum (faceN z) x.secs.length k st := by
  by_cases h0 : faceN x ((k + 1) % 2) = zero64B
  · rcases hl.or_ with rfl | h1
    · exact h.write Sha.sum sum_length hS (m := 0) (Nat.zero_le _) ((hyz rfl).mono (fun _ _ h => h.elim)) h0
    · exact absurd h0 h1
  · exact h.flag Sha.sum sum_length hS (hl.same.trans hz) h0
theorem LowR.cut (hl : LowR x ((k + 1) % 2) kk y er) (hc : CleanS x) (hS : 4 ≤ x.secs.length) (h : FndS Sha.sum (faceN x) x.secs.length k st) (l : List (Int × List B8)) : FndS Sha.sum (faceN (y.woken l)) x.secs.length k st :=
  h.low hS hl (woken_same l (fun i hi hT => hl.same.clean hc (by rw [← hl.same.1]; exact hi) hT)) (fun e => by
    subst e
    exact woken_same l (fun i hi _ => hc i hi))
theorem LowR.stp (hl : LowR x ((k + 1) % 2) kk y 0) (hS : 4 ≤ x.secs.length) (h : FndS Sha.sum (faceN x) x.secs.length k st) : Stp x k st y :=
  ⟨(hl.ok rfl).1, hl.same.1, h.low hS hl (.refl _ _) (fun e => by subst e; exact .refl _ _), (hl.ok rfl).2⟩
theorem whole_secs (hn : next.length ≤ 64 * ((x.secs.length - 2) / 2) - 44) (hS : 4 ≤ x.secs.length) : ((wholeB Sha.sum (k + 1) next).length + 63) / 64 ≤ (x.secs.length - 2) / 2 := by
  rw [wholeB_length Sha.sum sum_length]; omega
/-- cut off in the area -/
theorem Stp.cut (h : Stp x k st y) (hS : 4 ≤ x.secs.length) (hn : next.length ≤ 64 * ((x.secs.length - 2) / 2) - 44) (hb : Brn y (areaF x.secs.length (k + 1)) (wholeB Sha.sum (k + 1) next) z er) (l : List (Int × List B8)) : FndS Sha.sum (faceN (z.woken l)) x.secs.length k st := by
  have hf := h.fnd
  rw [← h.len] at hf hS
  have := hf.write Sha.sum sum_length hS (m := ((wholeB Sha.sum (k + 1) next).length + 63) / 64) (by rw [h.len] at hS ⊢; exact whole_secs hn hS) (by rw [h.len]; exact (hb.same.woke h.clean l).mono (fun i _ hT => by omega)) h.low
  rw [h.len] at this
  exact this
/-- behind the second step -/
structure Stq (x : Slv) (k : Nat) (st next : List B8) (y : Slv) : Prop where
  clean : CleanS y
  len : y.secs.length = x.secs.length
  fnd : FndS Sha.sum (faceN y) x.secs.length k st
  low : faceN y ((k + 1) % 2) = zero64B
  area : HasB (faceN y) (areaF x.secs.length (k + 1)) (wholeB Sha.sum (k + 1) next)
theorem areaF_ge (S n : Nat) : 2 ≤ areaF S n := by unfold areaF; omega
theorem Stp.stq (h : Stp x k st y) (hS : 4 ≤ x.secs.length) (hn : next.length ≤ 64 * ((x.secs.length - 2) / 2) - 44) (hb : Brn y (areaF x.secs.length (k + 1)) (wholeB Sha.sum (k + 1) next) z 0) : Stq x k st next z := by
  have hf := h.fnd
  have hS2 := hS
  rw [← h.len] at hf hS2
  have h1 := hf.write Sha.sum sum_length hS2 (m := ((wholeB Sha.sum (k + 1) next).length + 63) / 64) (by rw [h.len]; exact whole_secs hn hS) (by rw [h.len]; exact hb.same.mono (fun i _ hT => by omega)) h.low
  rw [h.len] at h1
  have hl := hb.same.1.trans h.len
  refine ⟨(hb.ok rfl).1, hl, h1, ?_, fun j hj => faceN_some ((hb.ok rfl).2 j hj)⟩
  have hge := areaF_ge x.secs.length (k + 1)
  rw [hb.same.face (by have := h.len; omega) (by omega)]
  exact h.low
theorem flag_same (h : Brn y ((k + 1) % 2) flagB z er) : SameS (fun i => i = (k + 1) % 2) y z := by
  have hs := h.same
  rw [show flagB.length = 64 from rfl] at hs
  exact hs.mono (fun i _ hT => by omega)
/-- cut off in the flag -/
theorem Stq.cut (h : Stq x k st next y) (hS : 4 ≤ x.secs.length) (hn : next.length ≤ 64 * ((x.secs.length - 2) / 2) - 44) (hb : Brn y ((k + 1) % 2) flagB z er) (l : List (Int × List B8)) :
    FndS Sha.sum (faceN (z.woken l)) x.secs.length k st ∨ FndS Sha.sum (faceN (z.woken l)) x.secs.length (k + 1) next := by
  have hf := h.fnd
  have ha := h.area
  rw [← h.len] at hf ha hS hn
  have ht := hf.turn Sha.sum sum_length hS hn ha ((flag_same hb).woke h.clean l)
  rw [h.len] at ht
  by_cases h0 : faceN (z.woken l) ((k + 1) % 2) = zero64B
  · exact .inl (ht.1 h0)
  · exact .inr (ht.2 h0)
theorem Stq.done (h : Stq x k st next y) (hS : 4 ≤ x.secs.length) (hn : next.length ≤ 64 * ((x.secs.length - 2) / 2) - 44) (hb : Brn y ((k + 1) % 2) flagB z 0) :
    CleanS z ∧ z.secs.length = x.secs.length ∧ FndS Sha.sum (faceN z) x.secs.length (k + 1) next := by
  have hf := h.fnd
  have ha := h.area
  rw [← h.len] at hf ha hS hn
  have ht := hf.turn Sha.sum sum_length hS hn ha (flag_same hb)
  rw [h.len] at ht
  refine ⟨(hb.ok rfl).1, hb.same.1.trans h.len, ht.2 ?_⟩
  have := (hb.ok rfl).2 0 (by decide)
  rw [Nat.add_zero] at this
  rw [faceN_some this, chunk_whole rfl]
  exact flagB_ne
end
end Sto
end Go.Proofs.Ytejjofjhcgdedaa
