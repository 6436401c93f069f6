/- The division of long numbers, in plain numbers: the shift that sets the divisor's highest bit; the window under a digit; the end. -/
import Derived.Test.YtekpjdfgpggcnaaNum
namespace Go.Proofs.Ytekpjdfgpggcnaa.Nt

section
variable {β : Nat} {f u : Nat → Nat}
/-- t's shift to the full word -/
theorem norm_word {t n : Nat} (ht : t ≠ 0) (h32 : blen t ≤ 32) (hn : n = 32 - blen t) : 2147483648 ≤ t * 2 ^ n ∧ (t + 1) * 2 ^ n ≤ 4294967296 := by
  obtain ⟨h1, h2⟩ := blen_le ht
  have h3 := blen_lt t
  have e1 : 2 ^ (blen t - 1) * 2 ^ n = 2147483648 := by
    rw [← Nat.pow_add, show blen t - 1 + n = 31 by omega]
  have e2 : 2 ^ blen t * 2 ^ n = 4294967296 := by
    rw [← Nat.pow_add, show blen t + n = 32 by omega]
  constructor
  · rw [← e1]; exact Nat.mul_le_mul_right _ h2
  · rw [← e2]; exact Nat.mul_le_mul_right _ h3
theorem norm_low {m D c : Nat} (hc : c ≤ f m * D) : c * β ^ m ≤ vf β f (m + 1) * D := by
  rw [vf_succ, Nat.add_mul]
  have h1 : c * β ^ m ≤ f m * D * β ^ m := Nat.mul_le_mul_right _ hc
  have h2 : f m * D * β ^ m = f m * β ^ m * D := by ac_rfl
  omega
theorem norm_high {m D : Nat} (hd : ∀ i, i < m → f i < β) (hD : 0 < D) (hc : (f m + 1) * D ≤ β) : vf β f (m + 1) * D < β ^ (m + 1) := by
  have h1 : vf β f m < β ^ m := vf_lt hd
  have h2 : vf β f (m + 1) < (f m + 1) * β ^ m := by rw [vf_succ, Nat.add_mul]; omega
  have h3 : vf β f (m + 1) * D < (f m + 1) * β ^ m * D := Nat.mul_lt_mul_of_pos_right h2 hD
  have h4 : (f m + 1) * β ^ m * D = (f m + 1) * D * β ^ m := by ac_rfl
  have h5 : (f m + 1) * D * β ^ m ≤ β * β ^ m := Nat.mul_le_mul_right _ hc
  have h6 : β * β ^ m = β ^ (m + 1) := by rw [Nat.pow_succ, Nat.mul_comm]
  omega
theorem top_ge {m c : Nat} (hd : ∀ i, i < m → f i < β) (h : c * β ^ m ≤ vf β f (m + 1)) : c ≤ f m := by
  have h1 : vf β f m < β ^ m := vf_lt hd
  rw [vf_succ] at h
  rcases Nat.lt_or_ge (f m) c with h2 | h2
  · have h3 : (f m + 1) * β ^ m ≤ c * β ^ m := Nat.mul_le_mul_right _ h2
    rw [Nat.add_mul] at h3
    omega
  · exact h2
theorem drop_top {m : Nat} (hβ : 0 < β) (h : vf β f (m + 1) < β ^ m) : vf β f m = vf β f (m + 1) := by
  rw [vf_succ, vf_zero_above hβ h (Nat.le_refl _) (Nat.lt_succ_self _), Nat.zero_mul, Nat.add_zero]
theorem window_lt {nu m j V : Nat} (hβ : 0 < β) (hlt : vf β u nu < V * β ^ (j + 1)) (hnu : j + m < nu) : vf β (fun i => u (j + i)) (m + 1) < β * V := by
  have h1 : vf β u (j + (m + 1)) ≤ vf β u nu := vf_mono (by omega)
  rw [vf_split] at h1
  have hp : 0 < β ^ j := Nat.pow_pos hβ
  refine Nat.lt_of_mul_lt_mul_right (a := β ^ j) ?_
  have e : β * V * β ^ j = V * β ^ (j + 1) := by rw [Nat.pow_succ]; ac_rfl
  omega
/-- at the start -/
theorem div_start {q : Nat → Nat} {nu nq U0 V : Nat} (hu : vf β u nu = U0) (hq : ∀ i, i < nq → q i = 0) (hU : U0 < V * β ^ nq) : U0 = vf β q nq * V + vf β u nu ∧ vf β u nu < V * β ^ nq := by
  have h0 : vf β q nq = 0 := by
    have := vf_zero_tail (β := β) (f := q) (n := 0) (m := nq) (by omega) (fun i _ h => hq i h)
    rw [this]; rfl
  exact ⟨by rw [h0, hu]; omega, by rw [hu]; exact hU⟩
theorem start_lt {a b D m nq : Nat} (hD : 0 < D) (ha : a < β ^ (m + nq)) (hb : β ^ m ≤ b) : a * D < b * D * β ^ nq := by
  have h1 : β ^ m * β ^ nq ≤ b * β ^ nq := Nat.mul_le_mul_right _ hb
  rw [Nat.pow_add] at ha
  have h2 : a * D < b * β ^ nq * D := Nat.mul_lt_mul_of_pos_right (by omega) hD
  have h3 : b * β ^ nq * D = b * D * β ^ nq := by ac_rfl
  omega
/-- at the end -/
theorem div_end {a b D Q R : Nat} (hD : 0 < D) (h : a * D = Q * (b * D) + R) (hR : R < b * D) : Q = a / b ∧ R / D = a % b := by
  obtain ⟨h1, h2⟩ := divmod_of h hR
  obtain ⟨h3, h4⟩ := div_shift (a := a) (b := b) hD
  exact ⟨by rw [← h1, h3], by rw [← h2, h4]⟩
end
end Go.Proofs.Ytekpjdfgpggcnaa.Nt
