/- Numbers in memory: a row of words, or of truths, whose last one is not nought, as the number that it is. -/
import Derived.Test.YtekpjdfgpggcnaaStr
import Derived.Test.YtekpjdfgpggcnaaNatM
namespace Go.Proofs.Ytekpjdfgpggcnaa
set_option linter.unusedSimpArgs false
set_option linter.unusedVariables false
open Go.RowKit
open Nt

/-- the digits of a row -/
def dig {α : Type} [Inhabited α] (d : α → Nat) (xs : List α) : Nat → Nat := fun i => d (gat xs i)
/-- the number of a row -/
def numOf {α : Type} [Inhabited α] (β : Nat) (d : α → Nat) (xs : List α) : Nat := vf β (dig d xs) xs.length
abbrev W32 : Nat := 4294967296
def d32 (x : BitVec 32) : Nat := x.toNat
def d8 (x : BitVec 8) : Nat := x.toNat
def d1 (x : Bool) : Nat := x.toNat
theorem d32_lt (x : BitVec 32) : d32 x < W32 := x.isLt
theorem d8_lt (x : BitVec 8) : d8 x < 256 := x.isLt
theorem d1_lt (x : Bool) : d1 x < 2 := by cases x <;> decide
theorem n32_d (x : BitVec 32) : n32 x = (d32 x : Int) := rfl
theorem n8_d (x : BitVec 8) : n8 x = (d8 x : Int) := rfl

section
variable {α : Type} [Inhabited α] {d : α → Nat} {xs ys : List α} {β : Nat}
theorem dig_append_left {i : Nat} (h : i < xs.length) : dig d (xs ++ ys) i = dig d xs i := by unfold dig; rw [gat_append_left h]
theorem dig_append_right {i : Nat} (h : xs.length ≤ i) : dig d (xs ++ ys) i = dig d ys (i - xs.length) := by unfold dig; rw [gat_append_right h]
theorem vf_append_left {k : Nat} (h : k ≤ xs.length) : vf β (dig d (xs ++ ys)) k = vf β (dig d xs) k := vf_congr fun i hi => dig_append_left (by omega)
theorem dig_take {i k : Nat} (h : i < k) : dig d (xs.take k) i = dig d xs i := by unfold dig; rw [gat_take h]
theorem dig_drop {i k : Nat} : dig d (xs.drop k) i = dig d xs (k + i) := by unfold dig; rw [gat_drop]
theorem dig_set {i j : Nat} {x : α} (hj : j < xs.length) : dig d (xs.set j x) i = if i = j then d x else dig d xs i := by
  unfold dig gat
  rw [List.getD_eq_getElem?_getD, List.getElem?_set]
  by_cases e : j = i
  · subst e; simp [hj]
  · rw [if_neg e, if_neg (Ne.symm e), List.getD_eq_getElem?_getD]
theorem numOf_lt (hd : ∀ x, d x < β) : numOf β d xs < β ^ xs.length := vf_lt fun i _ => hd _
theorem dig_out (h0 : d (default : α) = 0) {i : Nat} (h : xs.length ≤ i) : dig d xs i = 0 := by
  unfold dig gat
  rw [List.getD_eq_getElem?_getD, List.getElem?_eq_none h]
  exact h0
theorem vf_out (h0 : d (default : α) = 0) {k : Nat} (h : xs.length ≤ k) : vf β (dig d xs) k = numOf β d xs := vf_zero_tail h fun i hi _ => dig_out h0 hi
end

theorem Sl.new_at {α : Type} [Inhabited α] (f : α → Value) {w : World} {t : TypeId} (xs : List α) {b : Nat} (hb : w.heap.size = b) {cs : Array Value} (hc : (xs.map f).toArray = cs) : Sl f (w.alloc (.cells cs t)) (some ⟨b, 0, none⟩) xs := by
  subst hb hc; exact Sl.new f w t xs
/-- The slice s is a row of digits, the last not nought, of the number n. -/
def NumS {α : Type} [Inhabited α] (f : α → Value) (d : α → Nat) (β : Nat) (w : World) (s : Value) (n : Nat) : Prop :=
  ∃ A c xs, s = .slice A xs.length c ∧ xs.length ≤ c ∧ c ≤ maxLen ∧ Sl f w A xs ∧ Trd (dig d xs) xs.length ∧ numOf β d xs = n
/-- A number of the program's. -/
def NatV (w : World) (v : Value) (n : Nat) : Prop := ∃ s, v = .agg #[s] ∧ NumS by32 d32 W32 w s n
/-- behind a call: what lay there lies there -/
theorem ecell {W w1 : World} (hU : Ext W w1) : (∀ b o, b < W.heap.size → w1.cell? ⟨b, o, none⟩ = W.cell? ⟨b, o, none⟩) ∧ (∀ b o, b < W.heap.size → w1.frozen? ⟨b, o, none⟩ = W.frozen? ⟨b, o, none⟩) ∧ W.heap.size ≤ w1.heap.size :=
  ⟨fun b o h => hU.cell (p := ⟨b, o, none⟩) h (fun h => h), fun b o h => hU.frozen (p := ⟨b, o, none⟩) h (fun h => h), hU.size⟩
/-- a store onto a cell that holds no digit leaves the row as it is -/
theorem Sl.far {α : Type} [Inhabited α] {f : α → Value} {w : World} {A : Option Addr} {xs : List α} {p : Addr} {u v : Value} (h : Sl f w A xs) (hc : w.cell? p = some u) (hu : ∀ x, f x ≠ u) : Sl f (w.setCell p v) A xs := fun i hi => by
  obtain ⟨b, o, e, hx⟩ := h i hi
  refine ⟨b, o, e, ?_⟩
  rw [World.cell?_setCell_other _ _ _ _ (fun hp => hu (gat xs i) (by
    rw [← hp, hc] at hx
    injection hx with hx
    exact hx.symm))]
  exact hx
theorem NumS.far {α : Type} [Inhabited α] {f : α → Value} {d : α → Nat} {β : Nat} {w : World} {s : Value} {n : Nat} {p : Addr} {u v : Value} (h : NumS f d β w s n) (hc : w.cell? p = some u) (hu : ∀ x, f x ≠ u) : NumS f d β (w.setCell p v) s n := by
  obtain ⟨A, c, xs, h1, h2, h3, h4, h5⟩ := h
  exact ⟨A, c, xs, h1, h2, h3, h4.far hc hu, h5⟩
theorem NatV.far {w : World} {s : Value} {n : Nat} {p : Addr} {A : Option Addr} {l c : Nat} {v : Value} (h : NatV w s n) (hc : w.cell? p = some (.slice A l c)) : NatV (w.setCell p v) s n := by
  obtain ⟨s, rfl, h⟩ := h
  exact ⟨s, rfl, h.far hc (fun x e => by cases e)⟩
/-- A number of the document's. -/
def RefV (w : World) (v : Value) (n : Nat) : Prop := NumS Value.bool d1 2 w v n

section
variable {w w' : World} {v : Value} {n : Nat}
theorem NumS.ext {α : Type} [Inhabited α] {f : α → Value} {d : α → Nat} {β : Nat} (h : NumS f d β w v n) (hu : Ext w w') : NumS f d β w' v n := by
  obtain ⟨A, c, xs, h1, h2, h3, h4, h5⟩ := h
  exact ⟨A, c, xs, h1, h2, h3, h4.ext hu, h5⟩
theorem NatV.ext (h : NatV w v n) (hu : Ext w w') : NatV w' v n := by
  obtain ⟨s, h1, h2⟩ := h
  exact ⟨s, h1, h2.ext hu⟩
theorem RefV.ext (h : RefV w v n) (hu : Ext w w') : RefV w' v n := NumS.ext h hu
theorem NatV.of_eq {m : Nat} (h : NatV w v n) (e : n = m) : NatV w v m := e ▸ h
theorem RefV.of_eq {m : Nat} (h : RefV w v n) (e : n = m) : RefV w v m := e ▸ h
/-- The number nought: nil. -/
theorem NumS.nil {α : Type} [Inhabited α] (f : α → Value) (d : α → Nat) (β : Nat) (w : World) : NumS f d β w (.slice none 0 0) 0 :=
  ⟨none, 0, [], rfl, Nat.le_refl _, Nat.zero_le _, Sl.nil, .inl rfl, rfl⟩
theorem NumS.cut {α : Type} [Inhabited α] {f : α → Value} {d : α → Nat} {β : Nat} {A : Option Addr} {k c N : Nat} {xs : List α} (hS : Sl f w A xs) (hk : k ≤ xs.length) (hc : k ≤ c) (hm : c ≤ maxLen) (hv : vf β (dig d xs) k = N) (ht : k = 0 ∨ dig d xs (k - 1) ≠ 0) :
    NumS f d β w (.slice A k c) N := by
  have hl : (xs.take k).length = k := by rw [List.length_take]; omega
  refine ⟨A, c, xs.take k, by rw [hl], by rw [hl]; exact hc, hm, hS.take k, ?_, ?_⟩
  · rw [hl]
    rcases ht with h | h
    · exact .inl h
    · rcases Nat.eq_zero_or_pos k with h0 | h0
      · exact .inl h0
      · exact .inr (by rw [dig_take (by omega)]; exact h)
  · unfold numOf
    rw [hl, ← hv]
    exact vf_congr fun i hi => dig_take hi
theorem NatV.nil (w : World) : NatV w (.agg #[.slice none 0 0]) 0 := ⟨_, rfl, NumS.nil _ _ _ _⟩
theorem NatV.words (h : NatV w v n) : ∃ A c xs, v = .agg #[.slice A xs.length c] ∧ xs.length ≤ c ∧ c ≤ maxLen ∧ Sl by32 w A xs ∧ Trd (dig d32 xs) xs.length ∧ numOf W32 d32 xs = n := by
  obtain ⟨s, rfl, A, c, xs, rfl, h⟩ := h
  exact ⟨A, c, xs, rfl, h⟩

theorem NatV.open_ (h : NatV w v n) : ∃ A l c xs, v = .agg #[.slice A l c] ∧ xs.length = l ∧ l ≤ c ∧ c ≤ maxLen ∧ Sl by32 w A xs ∧ Trd (dig d32 xs) l ∧ numOf W32 d32 xs = n := by
  obtain ⟨A, c, xs, h1, h2, h3, h4, h5, h6⟩ := h.words
  exact ⟨A, xs.length, c, xs, h1, rfl, h2, h3, h4, h5, h6⟩
theorem RefV.open_ (h : RefV w v n) : ∃ A l c xs, v = .slice A l c ∧ xs.length = l ∧ l ≤ c ∧ c ≤ maxLen ∧ Sl Value.bool w A xs ∧ Trd (dig d1 xs) l ∧ numOf 2 d1 xs = n := by
  obtain ⟨A, c, xs, h1, h2, h3, h4, h5, h6⟩ := h
  exact ⟨A, xs.length, c, xs, h1, rfl, h2, h3, h4, h5, h6⟩
theorem one_lt_W32 : 1 < W32 := by decide
theorem W32_pow : W32 = 2 ^ 32 := rfl
/-- how many words -/
theorem words_len {xs : List (BitVec 32)} (ht : Trd (dig d32 xs) xs.length) : xs.length = (blen (numOf W32 d32 xs) + 31) / 32 := by
  have h1 := numOf_lt (xs := xs) d32_lt
  rw [W32_pow, ← Nat.pow_mul, ← blen_le_iff] at h1
  rw [← W32_pow] at h1
  rcases Nat.eq_zero_or_pos xs.length with e | e
  · rw [e] at h1 ⊢; omega
  · have h2 := ht.low (β := W32) e
    have h3 : ¬ blen (numOf W32 d32 xs) ≤ 32 * (xs.length - 1) := by
      rw [blen_le_iff, Nat.pow_mul, ← W32_pow]
      show ¬ vf W32 (dig d32 xs) xs.length < _
      omega
    omega
theorem bits_len {xs : List Bool} (ht : Trd (dig d1 xs) xs.length) : xs.length = blen (numOf 2 d1 xs) := by
  refine (blen_uniq ?_ (numOf_lt d1_lt)).symm
  rcases Nat.eq_zero_or_pos xs.length with e | e
  · exact .inl e
  · exact .inr (ht.low e)
end
end Go.Proofs.Ytekpjdfgpggcnaa
