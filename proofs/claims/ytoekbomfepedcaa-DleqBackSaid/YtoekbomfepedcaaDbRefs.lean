/- Merged: RefA RefB RefC RefD RefE RefF LawA LawB. -/
import Derived.Test.YtoekbomfepedcaaDbNatW
namespace Go.Proofs.Ytoekbomfepedcaa
set_option linter.unusedSimpArgs false
set_option linter.unusedVariables false
/- The document's numbers, rows of truths, walked: Trim, at, Cmp, Shift. -/
section
open Go.RowKit
open Nt
attribute [local go_sem] steady steadyUpon Cls same_cell
theorem RefV.upd {w w' : World} {A : Option Addr} {l c n : Nat} {T : Nat → Prop} (h : RefV w (.slice A l c) n) (hu : Upd T w w') (hT : ∀ k, inA A k → ¬ T k) : RefV w' (.slice A l c) n := by
  obtain ⟨A', c', xs, e, h2, h3, h4, h5⟩ := h
  cases e
  exact ⟨A, c, xs, rfl, h2, h3, h4.upd hu (fun b o hb => hT b (by rw [hb]; simp [inA])), h5⟩
end
/- The document's sums, differences and order of rows of truths, walked: Add, Sub, Cmp. -/
section
open Go.RowKit
open Nt
attribute [local go_sem] steady steadyUpon Cls same_cell
end
/- The document's differences and order of rows of truths, walked: Sub, Cmp. -/
section
open Go.RowKit
open Nt
attribute [local go_sem] steady steadyUpon Cls same_cell
end
/- The document's numbers out of bytes and small numbers, and back, walked: Of, Small, Bytes, Get. -/
section
open Go.RowKit
open Nt
attribute [local go_sem] steady steadyUpon Cls same_cell by8 wrap_w8
end
/- The document's products of rows of truths, walked: Shift, Mul. -/
section
open Go.RowKit
open Nt
attribute [local go_sem] steady steadyUpon Cls same_cell
end
/- The document's quotients and greatest divisors of rows of truths, walked: Div, Gcd. -/
section
open Go.RowKit
open Nt
attribute [local go_sem] steady steadyUpon Cls same_cell
theorem Own.one {α : Type} (f : α → Value) (w : World) (t : TypeId) (x : α) {B : Nat} (hB : B ≤ w.heap.size) : Own (w.alloc (.cells #[f x] t)) B t (some ⟨w.heap.size, 0, none⟩) 1 ([x].map f) :=
  ⟨rfl, .inr ⟨w.heap.size, 1, #[f x], rfl, hB, heap_alloc_new w _, Nat.le_refl _, by decide, rfl, rfl⟩⟩
theorem RefV.uniq {w : World} {v : Value} {n m : Nat} (h : RefV w v n) (h' : RefV w v m) : n = m := by
  obtain ⟨A, l, c, xs, rfl, hl, _, _, hS, _, hn⟩ := h.open_
  obtain ⟨A', l', c', ys, e, hl', _, _, hS', _, hn'⟩ := h'.open_
  cases e
  rw [← hn, ← hn']
  unfold numOf
  rw [hl, hl']
  refine vf_congr fun i hi => ?_
  obtain ⟨b, o, rfl, h1⟩ := hS i (by omega)
  obtain ⟨b', o', e, h2⟩ := hS' i (by omega)
  cases e
  rw [h1] at h2
  unfold dig
  injection h2 with h2
  injection h2 with h2
  rw [h2]
end
/- The helpers of the laws on numbers, walked: Same, Num, ref, lives. -/
section
open Go.RowKit
open Nt
attribute [local go_sem] steady steadyUpon Cls same_cell by8 str_eq
theorem Fit.blen {k n : Nat} (h : Fit k n) : blen n ≤ 32 * k := by
  rw [blen_le_iff, Nat.pow_mul]; exact h
/-- Bytes that came in. -/
def In8 (w : World) (A : Option Addr) (n c : Nat) (bs : List (BitVec 8)) : Prop := bs.length = n ∧ n ≤ c ∧ c ≤ maxLen ∧ Sl by8 w A bs
theorem In8.ext {w w' : World} {A : Option Addr} {n c : Nat} {bs : List (BitVec 8)} (h : In8 w A n c bs) (hu : Ext w w') : In8 w' A n c bs := ⟨h.1, h.2.1, h.2.2.1, h.2.2.2.ext hu⟩
end
/- Words for the laws on numbers. -/
section
open Go.RowKit
open Nt
theorem name_c {P : Program} {K : Nat} {args : Array Value} {Q : Ending → World → Prop} {W : World} (h : ∀ W', W' = W → Calls P K args W' Q) : Calls P K args W Q := h W rfl
theorem sub_yes (va vb : Value) (a b k : Nat) (w : World) (hVa : NatV w va a) (hVb : NatV w vb b) (hFa : Fit k a) (hFb : Fit k b) (hk : k ≤ 1000000) (h : b ≤ a) :
    Calls Try.prog 59 #[va, vb] w (RetO w (a - b) true) := by
  have := sub_any va vb a b k w hVa hVb hFa hFb hk
  rwa [if_neg (by omega)] at this
theorem sub_no (va vb : Value) (a b k : Nat) (w : World) (hVa : NatV w va a) (hVb : NatV w vb b) (hFa : Fit k a) (hFb : Fit k b) (hk : k ≤ 1000000) (h : a < b) :
    Calls Try.prog 59 #[va, vb] w (RetO w 0 false) := by
  have := sub_any va vb a b k w hVa hVb hFa hFb hk
  rwa [if_pos h] at this
theorem cmpI_ge {a b : Nat} (h : b ≤ a) : 0 ≤ cmpI a b := by
  rcases Int.lt_or_le (cmpI a b) 0 with h1 | h1
  · rw [cmpI_neg] at h1; omega
  · exact h1
theorem cmpI_lt {a b : Nat} (h : a < b) : cmpI a b = -1 := by unfold cmpI; rw [if_pos h]
theorem cmpI_eq {a : Nat} : cmpI a a = 0 := by unfold cmpI; rw [if_neg (Nat.lt_irrefl a), if_pos rfl]
end
end Go.Proofs.Ytoekbomfepedcaa
