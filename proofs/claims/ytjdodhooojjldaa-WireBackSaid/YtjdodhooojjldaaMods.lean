/- Merged: ModA ModB ModC ModE RefM. -/
import Derived.Test.YtjdodhooojjldaaRefs
import Derived.Test.YtjdodhooojjldaaNatX
namespace Go.Proofs.Ytjdodhooojjldaa
set_option linter.unusedSimpArgs false
set_option linter.unusedVariables false
/- Rings of numbers, walked: New, Modulus. -/
section
open Go.RowKit
open Nt
attribute [local go_sem] steady steadyUpon Cls same_cell
attribute [local irreducible] wpHead wpTree

/-- Block g is two cells. -/
def Two (w : World) (g : Nat) (t : TypeId) (a b : Value) : Prop := w.heap[g]? = some (.cells #[a, b] t (0, 0))
section two
variable {w w' : World} {g : Nat} {t : TypeId} {a b u : Value} {T : Nat → Prop}
theorem Two.lt (h : Two w g t a b) : g < w.heap.size := (Array.getElem?_eq_some_iff.1 h).1
theorem Two.cell0 (h : Two w g t a b) : w.cell? ⟨g, 0, none⟩ = some a := by unfold Two at h; simp [World.cell?, h]
theorem Two.cell1 (h : Two w g t a b) : w.cell? ⟨g, 1, none⟩ = some b := by unfold Two at h; simp [World.cell?, h]
theorem Two.frozen (h : Two w g t a b) (o : Nat) : w.frozen? ⟨g, o, none⟩ = false := by unfold Two at h; simp [World.frozen?, h]
theorem Two.upd (h : Two w g t a b) (hu : Upd T w w') (hT : ¬ T g) : Two w' g t a b := (hu.block g h.lt hT).trans h
theorem Two.ext (h : Two w g t a b) (hu : Ext w w') : Two w' g t a b := h.upd hu (fun h => h)
theorem Two.new (w : World) (t : TypeId) (a b : Value) : Two (w.alloc (.cells #[a, b] t)) w.heap.size t a b := heap_alloc_new w _
theorem Two.drew (h : Two w g t a b) : Two w.drew g t a b := h
theorem Two.set1 (h : Two w g t a b) (u : Value) : Two (w.setCell ⟨g, 1, none⟩ u) g t a u := by
  unfold Two at *; simp [World.setCell, Array.getElem?_modify, h]
theorem Two.far (h : Two w g t a b) {p : Addr} (hp : g ≠ p.block) (u : Value) : Two (w.setCell p u) g t a b := (Below.heap_setCell w p u g hp).trans h
end two
theorem NatV.far64 {w : World} {s : Value} {n : Nat} {p : Addr} {m : Int} {v : Value} (h : NatV w s n) (hc : w.cell? p = some (.int .u64 m)) : NatV (w.setCell p v) s n := by
  obtain ⟨s, rfl, h⟩ := h
  exact ⟨s, rfl, h.far hc (fun x e => by unfold by32 at e; injection e with e; cases e)⟩
/-- what a ring keeps of a small modulus -/
def smallOf (n : Nat) : Int := if n < 4294967296 then (n : Int) else 0
end
/- Rings of numbers, walked: Of, Add, Sub, Mul. -/
section
open Go.RowKit
open Nt
attribute [local go_sem] steady steadyUpon Cls same_cell
attribute [local irreducible] wpHead wpTree

/-- the number is small: words are multiplied -/
theorem mul_words {a b n : Nat} (hn : 2 ≤ n) (h32 : n < 4294967296) : (a % n) * (b % n) < 18446744073709551616 := by
  have h1 := Nat.mod_lt a (show 0 < n by omega)
  have h2 := Nat.mod_lt b (show 0 < n by omega)
  have h3 : (a % n) * (b % n) ≤ 4294967295 * 4294967295 := Nat.mul_le_mul (by omega) (by omega)
  omega
/-- a difference in the ring -/
def subm (a b n : Nat) : Nat := (a % n + n - b % n) % n
end
/- Powers in rings, walked: Exp with a short exponent. -/
section
open Go.RowKit
open Nt
attribute [local go_sem] steady steadyUpon Cls same_cell
attribute [local irreducible] wpHead wpTree

theorem NatV.only {w w' : World} {g n : Nat} {v : Value} {t : TypeId} {A : Option Addr} {l c : Nat} (h : NatV w v n) (hb : Box w g t (.slice A l c)) (hu : Upd (only g) w w') : NatV w' v n :=
  h.change' hu fun b hb' => by
    have : b = g := hb'
    subst this
    exact ⟨t, _, hb, rfl⟩
theorem div_two (e j : Nat) : e / 2 ^ j = 2 * (e / 2 ^ (j + 1)) + e / 2 ^ j % 2 := by
  rw [Nat.pow_succ, ← Nat.div_div_eq_div_mul]; omega
theorem exp_even {a e n j : Nat} (h : e / 2 ^ j % 2 = 0) : (a ^ (e / 2 ^ (j + 1)) % n) * (a ^ (e / 2 ^ (j + 1)) % n) % n = a ^ (e / 2 ^ j) % n := by
  have h1 := div_two e j
  rw [h] at h1
  rw [h1, ← Nat.mul_mod, ← Nat.pow_add]
  congr 2
  omega
theorem exp_odd {a e n j : Nat} (h : e / 2 ^ j % 2 = 1) : ((a ^ (e / 2 ^ (j + 1)) % n) * (a ^ (e / 2 ^ (j + 1)) % n) % n) * (a % n) % n = a ^ (e / 2 ^ j) % n := by
  have h1 := div_two e j
  rw [h] at h1
  rw [h1, ← Nat.mul_mod (a ^ (e / 2 ^ (j + 1))), ← Nat.mul_mod (a ^ (e / 2 ^ (j + 1)) * a ^ (e / 2 ^ (j + 1))), ← Nat.pow_add, ← Nat.pow_succ]
  congr 2
  omega
theorem exp_top {a e n : Nat} : 1 % n = a ^ (e / 2 ^ blen e) % n := by
  have h : e < 2 ^ blen e := (blen_le_iff).1 (Nat.le_refl _)
  rw [Nat.div_eq_of_lt h, Nat.pow_zero]
end
/- Rings of numbers, walked: Inv in no ring. -/
section
open Go.RowKit
open Nt
attribute [local go_sem] steady steadyUpon Cls same_cell
attribute [local irreducible] wpHead wpTree

end
/- The document's rings over rows of truths, walked: Of, Add, Sub, Mul. -/
section
open Go.RowKit
open Nt

theorem blen_sum {a b k : Nat} (ha : blen a ≤ k) (hb : blen b ≤ k) : blen (a + b) ≤ k + 1 := by
  rw [blen_le_iff] at *
  rw [Nat.pow_succ]; omega
theorem blen_mul' {a b k : Nat} (ha : blen a ≤ k) (hb : blen b ≤ k) : blen (a * b) ≤ k + k := by
  rw [blen_le_iff] at *
  rw [Nat.pow_add]
  exact Nat.mul_lt_mul_of_lt_of_le ha (Nat.le_of_lt hb) (Nat.two_pow_pos k)
theorem blen_le_of {a b k : Nat} (h : a ≤ b) (hb : blen b ≤ k) : blen a ≤ k := by
  rw [blen_le_iff] at *; omega
end
end Go.Proofs.Ytjdodhooojjldaa
