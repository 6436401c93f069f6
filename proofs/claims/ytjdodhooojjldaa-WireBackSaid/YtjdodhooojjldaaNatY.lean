/- Merged: NatF NatG NatS NatT NatH NatI. -/
import Derived.Test.YtjdodhooojjldaaNatX
import Derived.RangeFuncNested
import Derived.RangeFuncBound
import Derived.RangeFuncBox
import Derived.RangeFuncLeaves
import Derived.RangeFuncWrites
import Derived.Shelf.Abstract
import Derived.OwnWalkIn
import Derived.TacticsInMore
import Derived.LoopNIn
import Derived.LoopIn
namespace Go.Proofs.Ytjdodhooojjldaa
set_option linter.unusedSimpArgs false
set_option linter.unusedVariables false
/- Sums of numbers, walked: Add. -/
section
open Go.RowKit
open Nt
attribute [local go_sem] by32 wrap_w32

theorem add_next {xs ys zs : List (BitVec 32)} {k c s : Nat} (hz : zs.length = k) (h : vf W32 (dig d32 zs) k + c * W32 ^ k = vf W32 (dig d32 xs) k + vf W32 (dig d32 ys) k) (hs : c + dig d32 xs k + dig d32 ys k = s) :
    vf W32 (dig d32 (zs ++ [w32 s])) (k + 1) + s / W32 * W32 ^ (k + 1) = vf W32 (dig d32 xs) (k + 1) + vf W32 (dig d32 ys) (k + 1) := by
  subst hs
  refine add_step (c := c) ?_ ?_
  · rw [vf_append_left (by omega)]; exact h
  · rw [dig_append_right (by omega), hz, Nat.sub_self]
    exact d32_w32 _
theorem add_last {xs ys zs : List (BitVec 32)} {k c : Nat} (hz : zs.length = k) (h : vf W32 (dig d32 zs) k + c * W32 ^ k = vf W32 (dig d32 xs) k + vf W32 (dig d32 ys) k) (hx : xs.length = k) (hy : ys.length ≤ k) (hc : c ≤ 1) :
    numOf W32 d32 (zs ++ [w32 c]) = numOf W32 d32 xs + numOf W32 d32 ys := by
  unfold numOf
  rw [List.length_append, hz, List.length_singleton, vf_succ, vf_append_left (by omega), dig_append_right (by omega), hz, Nat.sub_self]
  have e : dig d32 [w32 (c : Int)] 0 = c := by
    show d32 (w32 (c : Int)) = c
    rw [d32_w32]; unfold W32; omega
  rw [e, h, hx, vf_out (by rfl) hy]
  rfl
theorem sum_cast {c : Nat} {x y : BitVec 32} : (c : Int) + n32 x + n32 y = ((c + d32 x + d32 y : Nat) : Int) := rfl
theorem sum_cast' {c : Nat} {x : BitVec 32} : (c : Int) + n32 x = ((c + d32 x + 0 : Nat) : Int) := rfl
theorem quo_cast {s : Nat} : (s : Int) / 4294967296 = ((s / W32 : Nat) : Int) := rfl


end
/- Products of numbers, walked: Mul. -/
section
open Go.RowKit
open Nt
attribute [local go_sem] by32 wrap_w32

theorem prod_cast {c : Nat} {x y z : BitVec 32} : (c : Int) + (n32 x * n32 y + n32 z) = ((c + (d32 x * d32 y + d32 z) : Nat) : Int) := by
  rw [n32_d, n32_d, n32_d]; simp
theorem prod_bd (x y : BitVec 32) : 0 ≤ n32 x * n32 y ∧ n32 x * n32 y ≤ 18446744065119617025 := by
  obtain ⟨hx1, hx2⟩ := n32_bd x
  obtain ⟨hy1, hy2⟩ := n32_bd y
  refine ⟨Int.mul_nonneg hx1 hy1, ?_⟩
  have h1 : n32 x * n32 y ≤ 4294967295 * n32 y := Int.mul_le_mul_of_nonneg_right hx2 hy1
  omega
theorem dig_set_fn {zs : List (BitVec 32)} {j : Nat} {s : Nat} (hj : j < zs.length) : dig d32 (zs.set j (w32 s)) = fun i => if i = j then s % W32 else dig d32 zs i := by
  funext i; rw [dig_set hj, d32_w32]
theorem mul_next {xs ys zs : List (BitVec 32)} {N i k c V : Nat} (hz : zs.length = N) (hN : i + k < N) (h : vf W32 (dig d32 zs) N + c * W32 ^ (i + k) = V + d32 (gat xs i) * W32 ^ i * vf W32 (dig d32 ys) k) :
    vf W32 (dig d32 (zs.set (i + k) (w32 ((c : Int) + (n32 (gat xs i) * n32 (gat ys k) + n32 (gat zs (i + k))))))) N + (c + (d32 (gat xs i) * d32 (gat ys k) + d32 (gat zs (i + k)))) / W32 * W32 ^ (i + (k + 1)) = V + d32 (gat xs i) * W32 ^ i * vf W32 (dig d32 ys) (k + 1) := by
  rw [prod_cast]
  exact mul_step (b := dig d32 ys) (o := dig d32 zs) hN h (dig_set_fn (by omega))
theorem mul_row {xs ys zs : List (BitVec 32)} {N i lb c V : Nat} (hz : zs.length = N) (hN : i + lb < N) (hc : c < W32) (h0 : dig d32 zs (i + lb) = 0) (hV : V = vf W32 (dig d32 xs) i * vf W32 (dig d32 ys) lb)
    (h : vf W32 (dig d32 zs) N + c * W32 ^ (i + lb) = V + d32 (gat xs i) * W32 ^ i * vf W32 (dig d32 ys) lb) : vf W32 (dig d32 (zs.set (i + lb) (w32 (c : Int)))) N = vf W32 (dig d32 xs) (i + 1) * vf W32 (dig d32 ys) lb := by
  have hs := vf_set (β := W32) (f := dig d32 zs) (v := c) hN
  rw [h0, Nat.zero_mul, Nat.add_zero] at hs
  rw [dig_set_fn (by omega), Nat.mod_eq_of_lt hc, hs, h, hV, vf_succ, Nat.add_mul]
  rfl
end
/- A row of words shifted, walked: shift. -/
section
open Go.RowKit
open Nt
attribute [local go_sem] by32 wrap_w32 or_u32

theorem quo_cast' {s : Nat} : (s : Int) / 4294967296 = ((s / W32 : Nat) : Int) := rfl
theorem shl_val {x : BitVec 32} {n : Nat} (hn : n < 32) : IntKind.u64.wrap (n32 x * 2 ^ n) = ((d32 x * 2 ^ n : Nat) : Int) := by
  have h1 : d32 x * 2 ^ n < 18446744073709551616 := by
    have h2 : d32 x * 2 ^ n ≤ 4294967295 * 2 ^ 31 := Nat.mul_le_mul (by have := d32_lt x; unfold W32 at this; omega) (Nat.pow_le_pow_right (by omega) (by omega))
    omega
  rw [n32_d, show ((d32 x : Nat) : Int) * 2 ^ n = ((d32 x * 2 ^ n : Nat) : Int) by simp, u64_nat h1]
theorem w_split {n : Nat} (hn : n < 32) : W32 = 2 ^ n * 2 ^ (32 - n) := by
  rw [← Nat.pow_add, show n + (32 - n) = 32 by omega]
theorem shift_top {x : BitVec 32} {n : Nat} (hn : n < 32) : d32 (w32 (IntKind.u64.wrap (n32 x * 2 ^ n) / 4294967296)) < 2 ^ n := by
  rw [shl_val hn, quo_cast', d32_w32]
  refine Nat.lt_of_le_of_lt (Nat.mod_le _ _) (shl_lt (w_split hn) (by decide) (d32_lt x))
theorem shift_next {xs zs : List (BitVec 32)} {l j n : Nat} (hn : n < 32) (hz : zs.length = l + 1) (hj : j < l) (hv : vf W32 (dig d32 zs) (l + 1) = vf W32 (dig d32 xs) j * 2 ^ n) (h0 : dig d32 zs (j + 1) = 0) (hlt : dig d32 zs j < 2 ^ n) :
    vf W32 (dig d32 ((zs.set j (gat zs j ||| w32 (IntKind.u64.wrap (n32 (gat xs j) * 2 ^ n)))).set (j + 1) (w32 (IntKind.u64.wrap (n32 (gat xs j) * 2 ^ n) / 4294967296)))) (l + 1) = vf W32 (dig d32 xs) (j + 1) * 2 ^ n := by
  refine shl_step (out := dig d32 zs) (a := dig d32 xs) (i := j) (by omega) hv h0 ?_
  intro q hq
  have hy : d32 (gat zs j ||| w32 (IntKind.u64.wrap (n32 (gat xs j) * 2 ^ n))) = dig d32 zs j + d32 (gat xs j) * 2 ^ n % W32 := by
    have h1 : d32 (gat xs j) * 2 ^ n % W32 = d32 (gat xs j) % 2 ^ (32 - n) * 2 ^ n := by
      rw [w_split hn, Nat.mul_comm (2 ^ n), Nat.mul_mod_mul_right]
    rw [h1]
    refine d32_or rfl ?_ hlt
    rw [shl_val hn, d32_w32, h1]
  have hy2 : d32 (w32 (IntKind.u64.wrap (n32 (gat xs j) * 2 ^ n) / 4294967296)) = d32 (gat xs j) * 2 ^ n / W32 := by
    rw [shl_val hn, quo_cast', d32_w32, Nat.mod_eq_of_lt]
    exact Nat.lt_trans (shl_lt (w_split hn) (by decide) (d32_lt _)) (Nat.pow_lt_pow_right (by omega) hn)
  rw [dig_set (by rw [List.length_set]; omega)]
  by_cases e : q = j + 1
  · rw [if_pos e, hy2, if_neg (by omega), if_pos e]; rfl
  · rw [if_neg e, dig_set (by omega)]
    by_cases e2 : q = j
    · rw [if_pos e2, if_pos e2, hy]; rfl
    · rw [if_neg e2, if_neg e2, if_neg e]
end
/- A multiple taken away from words in place, walked: take. -/
section
open Go.RowKit
open Nt
attribute [local go_sem] by32 wrap_w32

theorem sub_digit {a b d w w' : Nat} {s : Int} (hs : s = (a : Int) - (b : Int) - (w : Int)) (ha : a < W32) (hb : b < W32) (hw : w ≤ 1) (h : (s < 0 ∧ d = (s + 4294967296).toNat ∧ w' = 1) ∨ (0 ≤ s ∧ d = s.toNat ∧ w' = 0)) : d + b + w = a + w' * W32 ∧ d < W32 := by
  unfold W32 at *
  omega
theorem d32_int {s : Int} {d : Nat} (h : s = (d : Int)) (hd : d < W32) : d32 (w32 s) = d := by rw [h, w32_nat hd]
theorem take_bd {c q : Nat} {y : BitVec 32} (hc : c ≤ q - 1) (hq : q ≤ W32) : 0 ≤ (q : Int) * n32 y ∧ (q : Int) * n32 y ≤ 18446744069414584320 ∧ (c : Int) + (q : Int) * n32 y ≤ 18446744073709551615 ∧ (c : Int) + (q : Int) * n32 y = ((c + q * d32 y : Nat) : Int) ∧ (c + q * d32 y) / W32 ≤ q - 1 := by
  have hy := d32_lt y
  have e : (q : Int) * n32 y = ((q * d32 y : Nat) : Int) := by rw [n32_d]; simp
  have h1 : q * d32 y ≤ q * (W32 - 1) := Nat.mul_le_mul_left _ (by omega)
  rw [e]
  unfold W32 at *
  refine ⟨by omega, by omega, ?_, rfl, ?_⟩
  · rcases Nat.eq_zero_or_pos q with h | h <;> omega
  · rcases Nat.eq_zero_or_pos q with h | h
    · subst h; omega
    · omega

theorem n32_mod (s : Nat) : n32 (w32 (s : Int)) = ((s % W32 : Nat) : Int) := congrArg Int.ofNat (d32_w32 s)
theorem take_next {zs0 zs ys : List (BitVec 32)} {N j k c b q w' : Nat} {s : Int} (hz : zs.length = N) (hjk : j + k < N) (hun : ∀ i, i < j ∨ j + k ≤ i → dig d32 zs i = dig d32 zs0 i)
    (hv : vf W32 (fun i => dig d32 zs (j + i)) k + q * vf W32 (dig d32 ys) k = vf W32 (fun i => dig d32 zs0 (j + i)) k + (c + b) * W32 ^ k)
    (hd : d32 (w32 s) + (c + q * d32 (gat ys k)) % W32 + b = d32 (gat zs (j + k)) + w' * W32) :
    (∀ i, i < j ∨ j + (k + 1) ≤ i → dig d32 (zs.set (j + k) (w32 s)) i = dig d32 zs0 i) ∧
    vf W32 (fun i => dig d32 (zs.set (j + k) (w32 s)) (j + i)) (k + 1) + q * vf W32 (dig d32 ys) (k + 1) = vf W32 (fun i => dig d32 zs0 (j + i)) (k + 1) + ((c + q * d32 (gat ys k)) / W32 + w') * W32 ^ (k + 1) := by
  refine ⟨fun i hi => by rw [dig_set (by omega), if_neg (by omega)]; exact hun i (by omega), take_step (w := b) ?_ ?_⟩
  · rw [← hv]
    congr 1
    exact vf_congr fun i hi => by rw [dig_set (by omega), if_neg (by omega)]
  · rw [dig_set (by omega), if_pos rfl, ← hun (j + k) (.inr (Nat.le_refl _))]
    exact hd
/-- what take leaves -/
structure Taken (w : World) (B g cap : Nat) (zs ys : List (BitVec 32)) (j m q : Nat) (e : Ending) (w' : World) : Prop where
  ex : ∃ (zs' : List (BitVec 32)) (cw : Nat), e = .returned (.bool (decide (dig d32 zs (j + m) < cw))) ∧ zs'.length = zs.length ∧ Own w' B 32 (some ⟨g, 0, none⟩) cap (zs'.map by32) ∧ (∀ i, i < j ∨ j + m < i → dig d32 zs' i = dig d32 zs i) ∧
    vf W32 (fun i => dig d32 zs' (j + i)) m + q * vf W32 (dig d32 ys) m = vf W32 (fun i => dig d32 zs (j + i)) m + cw * W32 ^ m ∧ (cw ≤ dig d32 zs (j + m) → dig d32 zs' (j + m) = dig d32 zs (j + m) - cw) ∧ (cw = dig d32 zs (j + m) + 1 → dig d32 zs' (j + m) = W32 - 1)
  upd : Upd (only g) w w'

end
/- slices.Backward over words: what it hands to a loop; Cmp, walked. -/
section
open Go.RowKit Go.Shelf
open Nt
attribute [local go_sem] Oper.semAt_some by32

/-- what has come when k rounds are over -/
def upto {α : Type} (f : Nat → α) (k : Nat) : List α := (List.range k).map f
theorem upto_succ {α : Type} (f : Nat → α) (k : Nat) : upto f (k + 1) = upto f k ++ [f k] := by simp [upto, List.range_succ]
theorem upto_length {α : Type} (f : Nat → α) (k : Nat) : (upto f k).length = k := by simp [upto]
/-- an index, and what is handed over with it -/
abbrev Ix (len : Nat) := { i : Nat // i < len }
def bkv (xs : List (BitVec 32)) {len : Nat} (x : Ix len) : Array Value := #[.int .i64 (x.1 : Int), by32 (gat xs x.1)]
/-- the first k from behind -/
def Bk {len : Nat} (k : Nat) (pre : List (Ix len)) : Prop := pre.map (·.1) = upto (fun j => len - 1 - j) k
theorem Bk.nil {len : Nat} : Bk (len := len) 0 [] := rfl
theorem Bk.length {len k : Nat} {pre : List (Ix len)} (h : Bk k pre) : pre.length = k := by
  have := congrArg List.length h
  simpa [upto] using this
theorem Bk.snoc {len k : Nat} {pre : List (Ix len)} (h : Bk k pre) {x : Ix len} (hx : x.1 = len - 1 - k) : Bk (k + 1) (pre ++ [x]) := by
  unfold Bk at *
  rw [List.map_append, h, upto_succ, List.map_singleton, hx]
theorem Bk.last {len k : Nat} {ini : List (Ix len)} {x : Ix len} (h : Bk k (ini ++ [x])) : ∃ j, k = j + 1 ∧ Bk j ini ∧ x.1 = len - 1 - j := by
  have hl := h.length
  simp at hl
  subst hl
  unfold Bk at *
  rw [List.map_append, upto_succ, List.map_singleton] at h
  obtain ⟨h1, h2⟩ := List.append_inj' h rfl
  refine ⟨_, rfl, h1, by simpa using h2⟩
theorem Bk.mem {len k : Nat} {pre : List (Ix len)} (h : Bk k pre) {j : Nat} (hj : j < k) (hk : k ≤ len) : ∃ x ∈ pre, x.1 = len - 1 - j := by
  have : len - 1 - j ∈ pre.map (·.1) := by
    rw [h]; simp only [upto, List.mem_map, List.mem_range]; exact ⟨j, hj, rfl⟩
  obtain ⟨x, hx, e⟩ := List.mem_map.1 this
  exact ⟨x, hx, e⟩
/-- these blocks lie as they lay -/
def Kept (R : Nat → Prop) (W W' : World) : Prop := ∀ k, R k → W'.heap[k]? = W.heap[k]?
theorem Kept.refl (R : Nat → Prop) (W : World) : Kept R W W := fun _ _ => rfl
theorem Kept.t {R : Nat → Prop} {A B C : World} (h : Kept R A B) (k : Kept R B C) : Kept R A C := fun i hi => (k i hi).trans (h i hi)
theorem Kept.b {R : Nat → Prop} {w : World} (hn : ∀ i, R i → i < w.heap.size) (W : World) (l : Nat) (o o' : Obj) (hl : w.heap.size ≤ l) (h : W.heap[l]? = some o) (_ : o.isCells = false) (_ : o.isWalk = false) : Kept R W (W.putObj l o') := fun i hi =>
  (grownBy_putObj' W l o').block i (by have := (Array.getElem?_eq_some_iff.1 h).1; have := hn i hi; omega) (fun e => by cases e; have := hn _ hi; omega)
theorem Kept.cell {R : Nat → Prop} {W W' : World} (h : Kept R W W') {p : Addr} (hp : R p.block) : W'.cell? p = W.cell? p := World.cell?_of_block (w := W) (h p.block hp)
theorem Kept.setCell {R : Nat → Prop} {W : World} {p : Addr} (hp : ¬ R p.block) (u : Value) : Kept R W (W.setCell p u) := fun k hk => Below.heap_setCell W p u k (fun e => hp (e ▸ hk))
theorem Sl.inA_lt {α : Type} [Inhabited α] {f : α → Value} {w : World} {A : Option Addr} {xs : List α} (h : Sl f w A xs) (h0 : 0 < xs.length) {k : Nat} (hk : inA A k) : k < w.heap.size := by
  obtain ⟨b, o, rfl, hb, _⟩ := h.open_ h0
  simp [inA] at hk; omega
theorem ext_of_below {w w' : World} (h : Below w.heap.size w w') : Ext w w' := ⟨h.os, h.tape, h.output, h.size, fun k hk _ => h.block k hk⟩
/-! ### Cmp -/
def cmpI (a b : Nat) : Int := if a < b then -1 else if a = b then 0 else 1
theorem cmp_len {xs ys : List (BitVec 32)} (hy : Trd (dig d32 ys) ys.length) (h : xs.length < ys.length) : numOf W32 d32 xs < numOf W32 d32 ys := hy.len_lt (by decide) (fun i _ => d32_lt _) h
theorem cmp_same {xs ys : List (BitVec 32)} {l : Nat} (hx : xs.length = l) (hy : ys.length = l) (h : ∀ i, i < l → gat ys i = gat xs i) : cmpI (numOf W32 d32 xs) (numOf W32 d32 ys) = 0 := by
  have : numOf W32 d32 xs = numOf W32 d32 ys := by
    unfold numOf; rw [hx, hy]; exact vf_congr fun i hi => by unfold dig; rw [h i hi]
  unfold cmpI; rw [this, if_neg (Nat.lt_irrefl _), if_pos rfl]
theorem cmp_first {xs ys : List (BitVec 32)} {l i : Nat} (hx : xs.length = l) (hy : ys.length = l) (hi : i < l) (h : ∀ j, i < j → j < l → gat ys j = gat xs j) (hne : n32 (gat xs i) ≠ n32 (gat ys i)) :
    cmpI (numOf W32 d32 xs) (numOf W32 d32 ys) = if n32 (gat xs i) < n32 (gat ys i) then -1 else 1 := by
  unfold numOf cmpI
  rw [hx, hy]
  by_cases hlt : n32 (gat xs i) < n32 (gat ys i)
  · have := vf_lt_of_digit (β := W32) (f := dig d32 xs) (g := dig d32 ys) hi (fun _ _ => d32_lt _) (fun j h1 h2 => by unfold dig; rw [h j h1 h2]) (by unfold dig; rw [n32_d, n32_d] at hlt; omega)
    rw [if_pos this, if_pos hlt]
  · have := vf_lt_of_digit (β := W32) (f := dig d32 ys) (g := dig d32 xs) hi (fun _ _ => d32_lt _) (fun j h1 h2 => by unfold dig; rw [h j h1 h2]) (by unfold dig; rw [n32_d, n32_d] at hlt hne; omega)
    rw [if_neg (by omega), if_neg (by omega), if_neg hlt]
/-- a round has found the words unlike -/
def CmpX (xs ys : List (BitVec 32)) {len : Nat} (g : Nat) (c : Code) (pre : List (Ix len)) (W : World) : Prop :=
  c = .ret ∧ ∃ ini last, pre = ini ++ [last] ∧ (∀ p ∈ ini, gat ys p.1 = gat xs p.1) ∧ n32 (gat xs last.1) ≠ n32 (gat ys last.1) ∧ W.cell? ⟨g, 0, none⟩ = some (.int .i64 (if n32 (gat xs last.1) < n32 (gat ys last.1) then -1 else 1))
end
/- Differences of numbers, walked: Sub. -/
section
open Go.RowKit
open Nt
attribute [local go_sem] by32 wrap_w32

/-- A number and a truth are handed back. -/
def RetO (w : World) (n : Nat) (t : Bool) (e : Ending) (w' : World) : Prop := ∃ A l c, e = .returned (.tuple #[.agg #[.slice A l c], .bool t]) ∧ NatV w' (.agg #[.slice A l c]) n ∧ Ext w w'
theorem cmpI_neg {a b : Nat} : (cmpI a b < 0) = (a < b) := by
  unfold cmpI
  split
  · simp [*]
  · split <;> simp [*]
theorem cmpI_bd (a b : Nat) : -1 ≤ cmpI a b ∧ cmpI a b ≤ 1 := by
  unfold cmpI
  split
  · omega
  · split <;> omega

theorem sub_next {xs ys zs : List (BitVec 32)} {N k b w' : Nat} {s : Int} (hz : zs.length = N) (hk : k < N) (hv : vf W32 (dig d32 zs) k + vf W32 (dig d32 ys) k = vf W32 (dig d32 xs) k + b * W32 ^ k)
    (hd : d32 (w32 s) + dig d32 ys k + b = dig d32 xs k + w' * W32) :
    vf W32 (dig d32 (zs.set k (w32 s))) (k + 1) + vf W32 (dig d32 ys) (k + 1) = vf W32 (dig d32 xs) (k + 1) + w' * W32 ^ (k + 1) := by
  refine sub_step (w := b) ?_ ?_
  · rw [← hv]
    congr 1
    exact vf_congr fun i hi => by rw [dig_set (by omega), if_neg (by omega)]
  · rw [dig_set (by omega), if_pos rfl]; exact hd

theorem sub_val {xs ys zs : List (BitVec 32)} {la lb a b w : Nat} (hz : zs.length = la) (hx : xs.length = la) (hy : ys.length = lb) (hle : lb ≤ la) (ha : numOf W32 d32 xs = a) (hb : numOf W32 d32 ys = b) (hv : vf W32 (dig d32 zs) la + vf W32 (dig d32 ys) la = vf W32 (dig d32 xs) la + w * W32 ^ la) (hab : b ≤ a) :
    numOf W32 d32 zs = a - b := by
  have h1 : vf W32 (dig d32 ys) la = b := by rw [← hb]; exact vf_out rfl (by omega)
  have h2 : vf W32 (dig d32 xs) la = a := by rw [← ha]; unfold numOf; rw [hx]
  have hw := sub_end hv (fun i _ => d32_lt _) (by omega)
  subst hw
  unfold numOf
  rw [hz]
  omega
end
end Go.Proofs.Ytjdodhooojjldaa
