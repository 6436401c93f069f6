/- Blocks of one cell (variables and results in memory), and what the program's table says of rows of words, bytes and truths. -/
import Derived.Test.YtekpjdfgpggcnaaNum
import Derived.Test.YtekpjdfgpggcnaaOws
import Derived.Test.YtekpjdfgpggcnaaProg
namespace Go.Proofs.Ytekpjdfgpggcnaa
set_option linter.unusedSimpArgs false
set_option linter.unusedVariables false
open Go.RowKit

theorem Upd.fresh {w0 w w' : World} {T : Nat → Prop} (h : Upd T w w') (h0 : Ext w0 w) (hT : ∀ k, T k → w0.heap.size ≤ k) : Ext w0 w' :=
  h0.trans' h (fun i hi ht => absurd (hT i ht) (by omega))
/-- Block g is one cell that holds v. -/
def Box (w : World) (g : Nat) (t : TypeId) (v : Value) : Prop := w.heap[g]? = some (.cells #[v] t (0, 0))
section box
variable {w w' : World} {g : Nat} {t : TypeId} {v u : Value} {T : Nat → Prop}
theorem Box.lt (h : Box w g t v) : g < w.heap.size := (Array.getElem?_eq_some_iff.1 h).1
theorem Box.cell (h : Box w g t v) : w.cell? ⟨g, 0, none⟩ = some v := by
  unfold Box at h; simp [World.cell?, h]
theorem Box.frozen (h : Box w g t v) : w.frozen? ⟨g, 0, none⟩ = false := by
  unfold Box at h; simp [World.frozen?, h]
theorem Box.upd (h : Box w g t v) (hu : Upd T w w') (hT : ¬ T g) : Box w' g t v := (hu.block g h.lt hT).trans h
theorem Box.ext (h : Box w g t v) (hu : Ext w w') : Box w' g t v := h.upd hu (fun h => h)
theorem Box.new (w : World) (t : TypeId) (v : Value) : Box (w.alloc (.cells #[v] t)) w.heap.size t v := heap_alloc_new w _
theorem Box.new_at {b : Nat} (hb : w.heap.size = b) : Box (w.alloc (.cells #[v] t)) b t v := by subst hb; exact Box.new w t v
theorem Box.alloc (h : Box w g t v) (o : Obj) : Box (w.alloc o) g t v := h.ext ((Upd.refl _ w).alloc o)
theorem Box.drew (h : Box w g t v) : Box w.drew g t v := h
theorem Box.set (h : Box w g t v) (u : Value) : Box (w.setCell ⟨g, 0, none⟩ u) g t u := by
  unfold Box at *; simp [World.setCell, Array.getElem?_modify, h]
theorem Box.far (h : Box w g t v) {p : Addr} (hp : g ≠ p.block) (u : Value) : Box (w.setCell p u) g t v := (Below.heap_setCell w p u g hp).trans h
theorem Own.ne_box {B : Nat} {e : TypeId} {A : Option Addr} {c : Nat} {xs : List Value} (h : Own w B e A c xs) (hb : Box w g t v) (hne : e ≠ t) : ¬ inA A g :=
  h.ne_arr (n := 1) (F := fun _ => v) (by unfold Arr; exact hb) hne
end box

/-- make([]T, 0, n) -/
theorem wpList_mk0 {P : Program} (w : World) {ops : Array Oper} {rest : List Oper} {o : Oper} {a : Act} {Q : Exit → Act → World → Prop} (l c : Operand) {T e : TypeId} {z : Value} {bytes : Nat} (E : ElemI P T e z bytes)
    (hgd : o.guard = none) (ho : o.op = .makeSlice T l c) (n : Nat) {kl kc : IntKind} {C : Int} (hl : a.eval l = .int kl 0) (hc : a.eval c = .int kc C) (hC : C = (n : Int)) (b2 : bytes * n ≤ 281474976710656) (b3 : n ≤ maxLen) {B : Nat} (hB : B ≤ w.heap.size)
    (h : ∀ g w', Own w' B e (some ⟨g, 0, none⟩) n [] → g = w.heap.size → Ext w w' → wpList P ops Q rest (a.put o.dst (.slice (some ⟨g, 0, none⟩) 0 n)) w') : wpList P ops Q (o :: rest) a w := by
  obtain ⟨i, hi, hz', hs, hb⟩ := info_parts E.info
  exact wpList_make_own w hgd l c T ho B e i z 1 E.under hi hz' hs kl kc C n hl hc hC (by rw [hb]; exact b2) b3 hB fun w' hown hg => h w.heap.size w' (by simpa [Own] using hown) rfl ⟨hg.os, hg.tape, hg.output, hg.size, fun k hk _ => hg.block k hk (by simp)⟩
theorem Try.n_el8 : ElemI Try.prog 22 5 (.int .u8 0) 1 := ⟨by kernel_rfl, by kernel_rfl, rfl⟩
theorem Try.n_el32 : ElemI Try.prog 24 75 (.int .u32 0) 4 := ⟨by kernel_rfl, by kernel_rfl, rfl⟩
theorem Try.n_sz8 : (Try.prog.info? 5).map (·.size) = some 1 := by kernel_rfl
theorem Try.n_sz32 : (Try.prog.info? 75).map (·.size) = some 1 := by kernel_rfl
theorem Try.n_sz1 : (Try.prog.info? 4).map (·.size) = some 1 := by kernel_rfl
theorem Try.n_under8 : Try.prog.underlying 5 = some (.int .u8) := by kernel_rfl
theorem Try.n_underS : Try.prog.underlying 9 = some .string := by kernel_rfl
theorem Try.n_under_bs : Try.prog.underlying 22 = some (.slice 5) := by kernel_rfl
end Go.Proofs.Ytekpjdfgpggcnaa
