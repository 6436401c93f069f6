/- Merged: NatU NatJ NatK NatL NatP NatQ. -/
import Derived.Test.YtjdodhooojjldaaNatY
import Derived.Deep.QuietTactic
import Derived.BigQuiet
import Derived.Test.YtjdodhooojjldaaBase
import Derived.Test.YtjdodhooojjldaaNatZ
namespace Go.Proofs.Ytjdodhooojjldaa
set_option linter.unusedSimpArgs false
set_option linter.unusedVariables false
/- A digit of a quotient, walked: digit. -/
section
open Go.RowKit
open Nt
attribute [local go_sem] steady steadyUpon Cls same_cell by32 wrap_w32

theorem top_two {β m : Nat} {f : Nat → Nat} (hm : 1 ≤ m) : (f m * β + f (m - 1)) * β ^ (m - 1) ≤ vf β f (m + 1) := by
  obtain ⟨k, rfl⟩ : ∃ k, m = k + 1 := ⟨m - 1, by omega⟩
  rw [Nat.add_sub_cancel, vf_succ, vf_succ, Nat.pow_succ, Nat.add_mul, Nat.mul_assoc, Nat.mul_comm β]
  omega
theorem top_one {β m : Nat} {f : Nat → Nat} (hf : ∀ i, i < m → f i < β) (hm : 1 ≤ m) : vf β f m < (f (m - 1) + 1) * β ^ (m - 1) := by
  obtain ⟨k, rfl⟩ : ∃ k, m = k + 1 := ⟨m - 1, by omega⟩
  rw [Nat.add_sub_cancel, vf_succ, Nat.add_mul, Nat.one_mul]
  have := vf_lt (β := β) (f := f) (n := k) (fun i hi => hf i (by omega))
  omega
theorem top_bound {β m T p U V : Nat} (hβ : 0 < β) (hp0 : 0 < p) (hT : T * β ^ (m - 1) ≤ U) (hp : V < (p + 1) * β ^ (m - 1)) (hUV : U < β * V) (h2 : β ≤ 2 * p) : T / p ≤ β + 1 := by
  have hP : 0 < β ^ (m - 1) := Nat.pow_pos hβ
  have h1 : T * β ^ (m - 1) < β * (p + 1) * β ^ (m - 1) := by
    refine Nat.lt_of_le_of_lt hT (Nat.lt_of_lt_of_le hUV ?_)
    rw [Nat.mul_assoc]
    exact Nat.mul_le_mul_left _ (Nat.le_of_lt hp)
  have h3 : T < β * (p + 1) := Nat.lt_of_mul_lt_mul_right h1
  have h4 : T / p < β + 2 := by
    rw [Nat.div_lt_iff_lt_mul hp0, Nat.add_mul]
    rw [Nat.mul_add] at h3
    omega
  omega
theorem back_cast {c : Nat} {x y : BitVec 32} : (c : Int) + (n32 x + n32 y) = ((c + d32 x + d32 y : Nat) : Int) := by rw [n32_d, n32_d]; omega
theorem back_next {zs1 zs ys : List (BitVec 32)} {N j k c : Nat} (hz : zs.length = N) (hjk : j + k < N) (hun : ∀ i, i < j ∨ j + k ≤ i → dig d32 zs i = dig d32 zs1 i)
    (hv : vf W32 (fun i => dig d32 zs (j + i)) k + c * W32 ^ k = vf W32 (fun i => dig d32 zs1 (j + i)) k + vf W32 (dig d32 ys) k) :
    (∀ i, i < j ∨ j + (k + 1) ≤ i → dig d32 (zs.set (j + k) (w32 ((c : Int) + (n32 (gat zs (j + k)) + n32 (gat ys k))))) i = dig d32 zs1 i) ∧
    vf W32 (fun i => dig d32 (zs.set (j + k) (w32 ((c : Int) + (n32 (gat zs (j + k)) + n32 (gat ys k))))) (j + i)) (k + 1) + (c + d32 (gat zs (j + k)) + d32 (gat ys k)) / W32 * W32 ^ (k + 1) = vf W32 (fun i => dig d32 zs1 (j + i)) (k + 1) + vf W32 (dig d32 ys) (k + 1) := by
  refine ⟨fun i hi => by rw [dig_set (by omega), if_neg (by omega)]; exact hun i (by omega), ?_⟩
  have hu : d32 (gat zs (j + k)) = dig d32 zs1 (j + k) := hun (j + k) (.inr (Nat.le_refl _))
  rw [hu]
  refine add_step (a := fun i => dig d32 zs1 (j + i)) (b := dig d32 ys) (c := c) ?_ ?_
  · rw [← hv]
    congr 1
    exact vf_congr fun i hi => by rw [dig_set (by omega), if_neg (by omega)]
  · rw [dig_set (by omega), if_pos rfl, back_cast, d32_w32, hu]; rfl
theorem quo_top {U V T p P : Nat} (hV : p * P ≤ V) (hU : U < (T + 1) * P) (hp : 0 < p) : U / V ≤ T / p := by
  have hV0 : 0 < V := by
    rcases Nat.eq_zero_or_pos P with h | h
    · subst h; omega
    · exact Nat.lt_of_lt_of_le (Nat.mul_pos hp h) hV
  have h : U / V < T / p + 1 := by
    rw [Nat.div_lt_iff_lt_mul hV0]
    refine Nat.lt_of_lt_of_le hU (Nat.le_trans ?_ (Nat.mul_le_mul_left _ hV))
    rw [← Nat.mul_assoc]
    refine Nat.mul_le_mul_right _ ?_
    have := Nat.div_add_mod T p
    have := Nat.mod_lt T hp
    rw [Nat.add_mul, Nat.one_mul, Nat.mul_comm]
    omega
  omega
/-- what digit leaves -/
structure Digit (w : World) (B g cap : Nat) (zs ys : List (BitVec 32)) (j m : Nat) (e : Ending) (w' : World) : Prop where
  ex : ∃ zs' : List (BitVec 32), e = .returned (.int .u32 (n32 (w32 ((vf W32 (fun i => dig d32 zs (j + i)) (m + 1) / vf W32 (dig d32 ys) m : Nat) : Int)))) ∧ zs'.length = zs.length ∧ Own w' B 32 (some ⟨g, 0, none⟩) cap (zs'.map by32) ∧ (∀ i, i < j ∨ j + m < i → dig d32 zs' i = dig d32 zs i) ∧
    vf W32 (fun i => dig d32 zs' (j + i)) (m + 1) = vf W32 (fun i => dig d32 zs (j + i)) (m + 1) % vf W32 (dig d32 ys) m
  upd : Upd (only g) w w'

theorem or_words {a b : Nat} (ha : a < W32) (hb : b < W32) : bits .or .u64 ((a : Int) * 4294967296) (b : Int) = ((a * W32 + b : Nat) : Int) := by
  have h := or_nat' .u64 rfl (a := b) (b := a) (s := 32) hb (by unfold W32 at *; show b + a * 2 ^ 32 < 2 ^ 64; omega)
  have e : ((a * 2 ^ 32 : Nat) : Int) = (a : Int) * 4294967296 := by simp
  rw [e] at h
  rw [h]
  unfold W32
  omega

end
/- A number divided by one word, walked: small. -/
section
open Go.RowKit Go.Shelf
open Nt
attribute [local go_sem] Oper.semAt_some by32 wrap_w32 steady steadyUpon Cls same_cell

theorem own_kept {W W' : World} {row : Option Nat} {B : Nat} {e : TypeId} {g c : Nat} {xs : List Value} (h : _root_.Go.Proofs.Ytjdodhooojjldaa.Own W B e (some ⟨g, 0, none⟩) c xs) (hg : W.grownBy W' row) (hr : ∀ r, row = some r → ∃ o : Obj, W.heap[r]? = some o ∧ o.isCells = false) : _root_.Go.Proofs.Ytjdodhooojjldaa.Own W' B e (some ⟨g, 0, none⟩) c xs := by
  have hU : Upd (fun k => row = some k) W W' := ⟨hg.os, hg.tape, hg.output, hg.size, fun k hk hn => hg.block k hk (fun e => hn e.symm)⟩
  refine h.upd hU (fun k hk hrow => ?_)
  obtain ⟨o, ho, hc⟩ := hr k hrow
  rcases h.2 with ⟨h0, _⟩ | ⟨g', cap, cur, hv, hb, hgg, _⟩
  · simp at h0
  · injection hv with hA
    injection hA with hA
    injection hA with hA
    subst hA
    simp [inA] at hk
    subst hk
    rw [hgg] at ho
    injection ho with ho
    subst ho
    simp [Obj.isCells] at hc
theorem box_kept {W W' : World} {row : Option Nat} {g : Nat} {t : TypeId} {v : Value} (h : Box W g t v) (hg : W.grownBy W' row) (hr : ∀ r, row = some r → ∃ o : Obj, W.heap[r]? = some o ∧ o.isCells = false) : Box W' g t v := by
  refine (hg.block g h.lt (fun e => ?_)).trans h
  obtain ⟨o, ho, hc⟩ := hr g e.symm
  unfold Box at h
  rw [h] at ho
  injection ho with ho
  subst ho
  simp [Obj.isCells] at hc

theorem NatV.kept {W W' : World} {row : Option Nat} {v : Value} {n : Nat} (h : NatV W v n) (hg : W.grownBy W' row) (hr : ∀ r, row = some r → ∃ o : Obj, W.heap[r]? = some o ∧ o.isCells = false) : NatV W' v n := by
  obtain ⟨s, h0, A, c, xs, h1, h2, h3, h4, h5⟩ := h
  exact ⟨s, h0, A, c, xs, h1, h2, h3, (fun i hi => by obtain ⟨b, o, e, hc⟩ := h4 i hi; exact ⟨b, o, e, cell_kept hc hg hr⟩), h5⟩
/-- what the rounds of small keep -/
structure Sm (la d : Nat) (xs : List (BitVec 32)) (H G : Nat) (pre : List (Ix la)) (W : World) : Prop where
  ex : ∃ (zs : List (BitVec 32)) (r : Nat), zs.length = la ∧ r < d ∧ _root_.Go.Proofs.Ytjdodhooojjldaa.Own W (H + 1 + 1 + 1 + 1) 32 (some ⟨H + 1 + 1 + 1 + 1, 0, none⟩) la (zs.map by32) ∧ Box W (G + 1) 109 (.int .u64 (r : Int)) ∧
    (Bk pre.length pre → numOf W32 d32 xs = vf W32 (dig d32 zs) la * d + r * W32 ^ (la - pre.length) + vf W32 (dig d32 xs) (la - pre.length) ∧ ∀ i, i < la - pre.length → dig d32 zs i = 0)
  b1 : Box W (H + 1) 32 (.int .u32 (d : Int))
  b2 : Box W (H + 1 + 1) 153 (.slice none 0 0)
  b3 : Box W (H + 1 + 1 + 1) 153 (.slice none 0 0)
  b5 : Box W G 151 (.slice (some ⟨H + 1 + 1 + 1 + 1, 0, none⟩) la la)
  sz : G + 1 + 1 < W.heap.size
theorem Sm.own {la d : Nat} {xs : List (BitVec 32)} {H G : Nat} : _root_.Go.Own (Sm la d xs H G) := fun s A B row hs hg hr => by
  obtain ⟨⟨zs, r, h1, h2, h3, h4, h5⟩, b1, b2, b3, b5, sz⟩ := hs
  exact ⟨⟨zs, r, h1, h2, own_kept h3 hg hr, box_kept h4 hg hr, h5⟩, box_kept b1 hg hr, box_kept b2 hg hr, box_kept b3 hg hr, box_kept b5 hg hr, Nat.lt_of_lt_of_le sz hg.size⟩
theorem Sm.nonext {la d : Nat} {xs : List (BitVec 32)} {H G : Nat} (_ : Nat) : _root_.Go.Own (fun (_ : List (Ix la)) (_ : World) => False) := fun _ _ _ _ hs _ _ => hs

end
/- Division of numbers, walked: the plain cases. -/
section
open Go.RowKit
open Nt
attribute [local go_sem] by32 wrap_w32 steady steadyUpon Cls same_cell

/-- Two numbers and a word are handed back. -/
def RetD (w : World) (q r : Nat) (t : Int) (e : Ending) (w' : World) : Prop := ∃ A1 l1 c1 A2 l2 c2, e = .returned (.tuple #[.agg #[.slice A1 l1 c1], .agg #[.slice A2 l2 c2], .int .i64 t]) ∧ NatV w' (.agg #[.slice A1 l1 c1]) q ∧ NatV w' (.agg #[.slice A2 l2 c2]) r ∧ Ext w w'

end
/- Division of numbers by a number of one word, walked. -/
section
open Go.RowKit
open Nt
attribute [local go_sem] by32 wrap_w32 steady steadyUpon Cls same_cell

/-- A block that is one slice. -/
def Zb (w : World) (b : Nat) : Prop := ∃ t A l c, Box w b t (.slice A l c)
theorem NatV.change {w w' : World} {v : Value} {n : Nat} {T : Nat → Prop} (h : NatV w v n) (hU : Upd T w w') (hT : ∀ b, T b → Zb w b) : NatV w' v n := by
  obtain ⟨s, h0, A, c, xs, h1, h2, h3, h4, h5⟩ := h
  refine ⟨s, h0, A, c, xs, h1, h2, h3, (fun i hi => ?_), h5⟩
  obtain ⟨b, o, e, hc⟩ := h4 i hi
  refine ⟨b, o, e, ?_⟩
  rw [← hc]
  refine hU.cell (p := ⟨b, o + i, none⟩) (World.block_lt_of_cell? w _ hc) (fun ht => ?_)
  obtain ⟨t, A', l, c', hb⟩ := hT _ ht
  unfold Box at hb
  simp only [World.cell?, hb] at hc
  rcases Nat.eq_zero_or_pos (o + i) with h0 | h0
  · rw [h0] at hc; simp [by32] at hc
  · rw [Array.getElem?_eq_none (by simp only [List.size_toArray, List.length_cons, List.length_nil]; omega)] at hc; cases hc
theorem one_word {ys : List (BitVec 32)} {lb b : Nat} (hl : ys.length = lb) (hT : Trd (dig d32 ys) lb) (hn : numOf W32 d32 ys = b) (h0 : 0 < b) (hb : b < W32) : lb = 1 ∧ n32 (gat ys 0) = (b : Int) := by
  subst hl
  have h1 : ys.length ≤ 1 := Fit.len hT hn (by unfold Fit; rw [Nat.pow_one]; exact hb)
  have h2 : ys.length ≠ 0 := fun e => by
    unfold numOf at hn
    rw [e] at hn
    simp [vf] at hn
    omega
  have h3 : ys.length = 1 := by omega
  refine ⟨h3, ?_⟩
  unfold numOf at hn
  rw [h3] at hn
  simp [vf] at hn
  rw [n32_d, ← hn]
  unfold dig
  rfl

def TwoN (v : Value) (w : World) (q r : Nat) : Prop := ∃ A1 l1 c1 A2 l2 c2, v = .tuple #[.agg #[.slice A1 l1 c1], .agg #[.slice A2 l2 c2]] ∧ NatV w (.agg #[.slice A1 l1 c1]) q ∧ NatV w (.agg #[.slice A2 l2 c2]) r
def OneN (v : Value) (w : World) (q : Nat) : Prop := ∃ A1 l1 c1, v = .agg #[.slice A1 l1 c1] ∧ NatV w (.agg #[.slice A1 l1 c1]) q
theorem TwoN.change {v : Value} {w w' : World} {q r : Nat} {T : Nat → Prop} (h : TwoN v w q r) (hU : Upd T w w') (hT : ∀ b, T b → Zb w b) : TwoN v w' q r := by
  obtain ⟨A1, l1, c1, A2, l2, c2, e, h1, h2⟩ := h
  exact ⟨A1, l1, c1, A2, l2, c2, e, h1.change hU hT, h2.change hU hT⟩
theorem OneN.change {v : Value} {w w' : World} {q : Nat} {T : Nat → Prop} (h : OneN v w q) (hU : Upd T w w') (hT : ∀ b, T b → Zb w b) : OneN v w' q := by
  obtain ⟨A1, l1, c1, e, h1⟩ := h
  exact ⟨A1, l1, c1, e, h1.change hU hT⟩
def NewB (t : TypeId) (v : Value) (w : World) (S : Nat → Prop) : Prop := ∃ g, v = .pointer (some ⟨g, 0, none⟩) ∧ Box w g t (.slice none 0 0) ∧ S g ∧ ∀ b, S b → b = g
def SetB (t : TypeId) (v : Value) (w : World) (S : Nat → Prop) (q : Nat) : Prop := ∃ g A1 l1 c1, v = .pointer (some ⟨g, 0, none⟩) ∧ Box w g t (.slice A1 l1 c1) ∧ S g ∧ NatV w (.agg #[.slice A1 l1 c1]) q
end
/- Division of numbers, walked: the general case. -/
section
open Go.RowKit
open Nt
attribute [local go_sem] by32 wrap_w32 steady steadyUpon Cls same_cell

theorem shr_val {x y : BitVec 32} {n : Nat} : d32 (w32 (bits BinOp.or IntKind.u64 (IntKind.u64.wrap (IntKind.u64.wrap (n32 y) * 4294967296)) (IntKind.u64.wrap (n32 x)) / 2 ^ n)) = (d32 y * W32 + d32 x) / 2 ^ n % W32 := by
  have hx := d32_lt x
  have hy := d32_lt y
  have e1 : IntKind.u64.wrap (n32 x) = ((d32 x : Nat) : Int) := by rw [n32_d, u64_nat (by unfold W32 at hx; omega)]
  have e2 : IntKind.u64.wrap (n32 y) = ((d32 y : Nat) : Int) := by rw [n32_d, u64_nat (by unfold W32 at hy; omega)]
  have e3 : IntKind.u64.wrap (((d32 y : Nat) : Int) * 4294967296) = ((d32 y : Nat) : Int) * 4294967296 := by
    rw [show ((d32 y : Nat) : Int) * 4294967296 = ((d32 y * 4294967296 : Nat) : Int) by omega, u64_nat (by unfold W32 at hy; omega)]
  rw [e1, e2, e3, or_words hy hx, show (((d32 y * W32 + d32 x : Nat) : Int)) / 2 ^ n = (((d32 y * W32 + d32 x) / 2 ^ n : Nat) : Int) by simp, d32_w32]

end
/- Division of numbers, all cases; the greatest number that divides two, walked: Gcd. -/
section
open Go.RowKit
open Nt
attribute [local go_sem] by32 wrap_w32 steady steadyUpon Cls same_cell

theorem NatV.uniq {w : World} {v : Value} {n m : Nat} (h : NatV w v n) (h' : NatV w v m) : n = m := by
  obtain ⟨A, l, c, xs, rfl, hl, _, _, hS, _, hn⟩ := h.open_
  obtain ⟨A', l', c', ys, e, hl', _, _, hS', _, hn'⟩ := h'.open_
  cases e
  rw [← hn, ← hn']
  unfold numOf
  rw [hl, hl']
  refine vf_congr fun i hi => ?_
  obtain ⟨b, o, rfl, h1⟩ := hS i (by omega)
  obtain ⟨b', o', e, h2⟩ := hS' i (by omega)
  cases e
  rw [h1] at h2
  unfold dig
  injection h2 with h2
  unfold by32 at h2
  injection h2 with _ h2
  unfold n32 at h2
  unfold d32
  omega
/-- the world behind a walk gets a name -/
theorem name_w {P : Program} {c : Code} {Q : Exit → Act → World → Prop} {a : Act} {W : World} (h : ∀ W', W' = W → c.wp P Q a W') : c.wp P Q a W := h W rfl
/-- the number in a block, if there is one -/
noncomputable def natAt (w : World) (g : Nat) : Nat := by
  classical
  exact if h : ∃ n s, w.cell? ⟨g, 0, none⟩ = some s ∧ NatV w (.agg #[s]) n then Classical.choose h else 0
theorem natAt_eq {w : World} {g n : Nat} {s : Value} (hc : w.cell? ⟨g, 0, none⟩ = some s) (h : NatV w (.agg #[s]) n) : natAt w g = n := by
  have hex : ∃ n s, w.cell? ⟨g, 0, none⟩ = some s ∧ NatV w (.agg #[s]) n := ⟨n, s, hc, h⟩
  unfold natAt
  rw [dif_pos hex]
  obtain ⟨s', h1, h2⟩ := Classical.choose_spec hex
  rw [hc] at h1
  injection h1 with h1
  subst h1
  exact h2.uniq h

end
end Go.Proofs.Ytjdodhooojjldaa
