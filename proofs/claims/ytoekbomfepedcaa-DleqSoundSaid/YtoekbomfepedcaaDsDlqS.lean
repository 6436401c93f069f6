/- Equal exponents: inverses in a prime's field, the lucky challenge, plainly. -/
import Derived.Test.YtoekbomfepedcaaDsInvP
import Derived.Test.YtoekbomfepedcaaDsCertP
namespace Go.Proofs.Ytoekbomfepedcaa
set_option linter.unusedSimpArgs false
set_option linter.unusedVariables false
open Go.RowKit
open Nt Pk
theorem nat_mod_int (x Q : Nat) : ∃ e : Int, ((x % Q : Nat) : Int) = x + Q * e := by
  refine ⟨-((x / Q : Nat) : Int), ?_⟩
  have h := Nat.div_add_mod x Q
  have h2 : ((Q * (x / Q) + x % Q : Nat) : Int) = x := by rw [h]
  rw [Int.natCast_add, Int.natCast_mul] at h2
  grind
theorem subm_int (a b Q : Nat) (hQ : 0 < Q) : ∃ e : Int, (subm a b Q : Int) = a - b + Q * e := by
  unfold subm
  have hb := Nat.mod_lt b hQ
  obtain ⟨e1, h1⟩ := nat_mod_int a Q
  obtain ⟨e2, h2⟩ := nat_mod_int b Q
  obtain ⟨e3, h3⟩ := nat_mod_int (a % Q + Q - b % Q) Q
  have h4 : ((a % Q + Q - b % Q : Nat) : Int) = (a % Q : Nat) + Q - (b % Q : Nat) := by omega
  rw [h3, h4, h1, h2]
  exact ⟨e1 + 1 - e2 + e3, by grind⟩
theorem mod_eq_of_int {a b Q : Nat} {e : Int} (h : (a : Int) = b + Q * e) : a % Q = b % Q := by
  have h1 : (a : Int) % Q = (b : Int) % Q := by rw [h, Int.add_mul_emod_self_left]
  exact_mod_cast h1
theorem int_of_mod_eq {a b Q : Nat} (h : a % Q = b % Q) : ∃ e : Int, (a : Int) = b + Q * e := by
  obtain ⟨e1, h1⟩ := nat_mod_int a Q
  obtain ⟨e2, h2⟩ := nat_mod_int b Q
  rw [h] at h1
  exact ⟨e2 - e1, by grind⟩
theorem lk1 {Q x y p r a d e1 e2 s t : Int} (hs : 1 = (y - x + Q * e1) * d + Q * s) (ht : p + a * x = r + a * y + Q * t) : a = (p - r + Q * e2) * d + Q * (a * s + a * e1 * d - t * d - e2 * d) := by grind
theorem lk2 {Q x y p r a d e1 e2 s w : Int} (hs : 1 = (y - x + Q * e1) * d + Q * s) (hw : a = (p - r + Q * e2) * d + Q * w) : p + a * x = r + a * y + Q * ((p - r) * (s + e1 * d) - (e2 * d + w) * (y - x)) := by grind
theorem lucky_iff {Q x y p r ask down : Nat} (hQ : 1 < Q) (hask : ask < Q) (hd : subm y x Q * down % Q = 1) : ((p + ask * x % Q) % Q = (r + ask * y % Q) % Q) ↔ ask = subm p r Q * down % Q := by
  obtain ⟨e1, h1⟩ := subm_int y x Q (by omega)
  obtain ⟨e2, h2⟩ := subm_int p r Q (by omega)
  obtain ⟨s, hs⟩ := nat_mod_int (subm y x Q * down) Q
  rw [hd, Int.natCast_mul, h1] at hs
  constructor
  · intro h
    have h' : (p + ask * x) % Q = (r + ask * y) % Q := by simpa only [Nat.add_mod_mod] using h
    obtain ⟨t, ht⟩ := int_of_mod_eq h'
    rw [Int.natCast_add, Int.natCast_mul, Int.natCast_add, Int.natCast_mul] at ht
    rw [← Nat.mod_eq_of_lt hask]
    obtain ⟨e, he⟩ : ∃ e : Int, (ask : Int) = ((subm p r Q * down : Nat) : Int) + Q * e := ⟨_, by rw [Int.natCast_mul, h2]; exact lk1 hs ht⟩
    exact mod_eq_of_int he
  · intro h
    obtain ⟨w, hw⟩ := nat_mod_int (subm p r Q * down) Q
    rw [← h, Int.natCast_mul, h2] at hw
    have : (p + ask * x) % Q = (r + ask * y) % Q := by
      obtain ⟨e, he⟩ : ∃ e : Int, ((p + ask * x : Nat) : Int) = ((r + ask * y : Nat) : Int) + Q * e := ⟨_, by rw [Int.natCast_add, Int.natCast_mul, Int.natCast_add, Int.natCast_mul]; exact lk2 hs hw⟩
      exact mod_eq_of_int he
    simpa only [Nat.add_mod_mod] using this
theorem EuI.run {m a : Nat} (hm : 0 < m) : ∀ (n u v x y : Nat), v ≤ n → EuI m a u v x y → ∃ u x y, EuI m a u 0 x y
  | 0, u, v, x, y, hv, h => by
    obtain rfl : v = 0 := by omega
    exact ⟨u, x, y, h⟩
  | n + 1, u, v, x, y, hv, h => by
    rcases Nat.eq_zero_or_pos v with h0 | h0
    · subst h0; exact ⟨u, x, y, h⟩
    · exact EuI.run hm n v (u % v) y (subm x (u / v * y % m) m) (by have := Nat.mod_lt u h0; omega) (h.step (subm_spec x (u / v) y m hm))
theorem inv_ex {Q d : Nat} (hp : Pr Q) (h0 : 0 < d) (hd : d < Q) : ∃ b, b < Q ∧ d * b % Q = 1 := by
  have h2 := hp.1
  obtain ⟨u, x, y, h⟩ := EuI.run (show 0 < Q by omega) _ _ _ _ _ (Nat.le_refl _) (EuI.start Q d)
  have hc : Nat.gcd Q d = 1 := hp.coprime (fun hdv => absurd (Nat.le_of_dvd h0 hdv) (by omega))
  have hu : u = 1 := by
    have := h.hg
    rw [Nat.gcd_zero_right, Nat.mod_eq_of_lt hd, hc] at this
    exact this
  refine ⟨x % Q, Nat.mod_lt _ (by omega), ?_⟩
  rw [Nat.mul_mod, Nat.mod_mod, ← Nat.mul_mod, Nat.mul_comm, h.hx, hu, Nat.mod_eq_of_lt (by omega)]
theorem add_same {Q p r t : Nat} (hp : p < Q) (hr : r < Q) : ((p + t) % Q = (r + t) % Q) ↔ p = r := by
  constructor
  · intro h
    have := mod_cancel h
    rwa [Nat.mod_eq_of_lt hp, Nat.mod_eq_of_lt hr] at this
  · rintro rfl; rfl
theorem subm_pos {Q a b : Nat} (ha : a < Q) (hb : b < Q) (hne : a ≠ b) : 0 < subm a b Q ∧ subm a b Q < Q := by
  refine ⟨?_, Nat.mod_lt _ (by omega)⟩
  unfold subm
  rw [Nat.mod_eq_of_lt ha, Nat.mod_eq_of_lt hb]
  rcases Nat.lt_or_ge b a with h | h
  · rw [show a + Q - b = a - b + Q by omega, Nat.add_mod_right, Nat.mod_eq_of_lt (by omega)]; omega
  · rw [Nat.mod_eq_of_lt (by omega)]; omega
end Go.Proofs.Ytoekbomfepedcaa
