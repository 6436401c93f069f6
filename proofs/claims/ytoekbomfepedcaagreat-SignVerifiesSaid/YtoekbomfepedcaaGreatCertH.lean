/- A claim as a step, walked: step. -/
import Derived.Test.YtoekbomfepedcaaGreatCertG
import Derived.Deep.DeepCutAuto
namespace Go.Proofs.YtoekbomfepedcaaGreat
set_option linter.unusedSimpArgs false
set_option linter.unusedVariables false
open Go.RowKit
open Nt Pk
attribute [local go_sem] steady steadyUpon Cls same_cell anyW
attribute [local irreducible] wpHead wpTree wpHeadR
def e64 (x : Nat) : Value := .int .u64 (x : Int)
def W64 (x : Nat) : Prop := x < 18446744073709551616
theorem Three.new_at {w : World} {g : Nat} {t : TypeId} {a b c : Value} (hg : w.heap.size = g) : Three (w.alloc (.cells #[a, b, c] t)) g t a b c := by subst hg; exact Three.new _ _ _ _ _
/-- three cells are written -/
theorem store3 {w : World} {g : Nat} {t : TypeId} {a b c : Value} (h : Three w g t a b c) (x y z : Value) : Three (((w.setCell ⟨g, 0, none⟩ x).setCell ⟨g, 1, none⟩ y).setCell ⟨g, 2, none⟩ z) g t x y z ∧ Upd (only g) w (((w.setCell ⟨g, 0, none⟩ x).setCell ⟨g, 1, none⟩ y).setCell ⟨g, 2, none⟩ z) :=
  ⟨((h.set0 x).set1 y).set2 z, (((Upd.refl _ _).setCell (T := only g) (p := ⟨g, 0, none⟩) (.inl rfl) _).setCell (p := ⟨g, 1, none⟩) (.inl rfl) _).setCell (p := ⟨g, 2, none⟩) (.inl rfl) _⟩
theorem store3e {w : World} {g : Nat} {t : TypeId} {a b c : Value} (h : Three w g t a b c) (x y z : Value) : ∃ w', w' = (((w.setCell ⟨g, 0, none⟩ x).setCell ⟨g, 1, none⟩ y).setCell ⟨g, 2, none⟩ z) ∧ Three w' g t x y z ∧ Upd (only g) w w' :=
  ⟨_, rfl, (store3 h x y z).1, (store3 h x y z).2⟩
theorem Upd.redrew {T : Nat → Prop} {w w' : World} (h : Upd T w w') : Upd T w.drew w' := ⟨h.os, h.tape, h.output, h.size, h.block⟩
theorem name_b {P : Program} {f : Func} {Q : Ending → World → Prop} {x : Exit} {a : Act} {W : World} (h : ∀ W', W' = W → bodyPost P f Q x a W') : bodyPost P f Q x a W := h W rfl
theorem NatV.store3 {w w' : World} {g : Nat} {t : TypeId} {a b c v : Value} {n : Nat} (h : NatV w v n) (hg : Three w g t a b c) (ha : softV a = true) (hb : softV b = true) (hc : softV c = true) (hU : Upd (Go.Proofs.YtoekbomfepedcaaGreat.only g) w w') : NatV w' v n :=
  h.changew hU fun k hk => by
    have : k = g := hk
    subst this
    exact hg.zw ha hb hc
theorem RefV.store3 {w w' : World} {g : Nat} {t : TypeId} {a b c v : Value} {n : Nat} (h : RefV w v n) (hg : Three w g t a b c) (ha : softV a = true) (hb : softV b = true) (hc : softV c = true) (hU : Upd (Go.Proofs.YtoekbomfepedcaaGreat.only g) w w') : RefV w' v n :=
  h.changew hU fun k hk => by
    have : k = g := hk
    subst this
    exact hg.zw ha hb hc
/-- in new memory -/
def New (w w' : World) (A : Option Addr) : Prop := ∀ k, inA A k → w.heap.size ≤ k ∧ k < w'.heap.size
theorem New.up {w w' a b : World} {A : Option Addr} (h : New a b A) (ha : w.heap.size ≤ a.heap.size) (hb : b.heap.size ≤ w'.heap.size) : New w w' A := fun k hk => ⟨Nat.le_trans ha (h k hk).1, Nat.lt_of_lt_of_le (h k hk).2 hb⟩
/-- A step, all of whose rows lie in blocks of R. -/
def StepR (w : World) (v : Value) (N b : Nat) (ps : List Nat) (R : Nat → Prop) : Prop :=
  ∃ A l c B m d C n e, v = .agg #[.slice A l c, .slice B m d, .slice C n e] ∧ NatV w (.agg #[.slice A l c]) N ∧ NatV w (.agg #[.slice B m d]) b ∧ (∃ ts : List Tri, ts.length = ps.length ∧ Sl svt w C ts ∧ ∀ i, i < ps.length → NatV w (.agg #[svt (gat ts i)]) (gat ps i) ∧ ∀ k, inA (gat ts i).1 k → R k) ∧ ps.length = n ∧ n ≤ e ∧ e ≤ maxLen ∧
    (∀ k, inA A k → R k) ∧ (∀ k, inA B k → R k) ∧ (∀ k, inA C k → R k)
def RStepR (w : World) (v : Value) (N b : Nat) (ps : List Nat) (R : Nat → Prop) : Prop :=
  ∃ A l c B m d C n e, v = .agg #[.slice A l c, .slice B m d, .slice C n e] ∧ RefV w (.slice A l c) N ∧ RefV w (.slice B m d) b ∧ (∃ ts : List Tri, ts.length = ps.length ∧ Sl svt w C ts ∧ ∀ i, i < ps.length → RefV w (svt (gat ts i)) (gat ps i) ∧ ∀ k, inA (gat ts i).1 k → R k) ∧ ps.length = n ∧ n ≤ e ∧ e ≤ maxLen ∧
    (∀ k, inA A k → R k) ∧ (∀ k, inA B k → R k) ∧ (∀ k, inA C k → R k)
theorem StepR.step {w : World} {v : Value} {N b : Nat} {ps : List Nat} {R : Nat → Prop} (h : StepR w v N b ps R) : StepV w v N b ps := by
  obtain ⟨A, l, c, B, m, d, C, n, e, h1, h2, h3, ⟨ts, t1, t2, t3⟩, h5, h6, h7, -⟩ := h
  exact ⟨A, l, c, B, m, d, C, n, e, h1, h2, h3, ⟨ts, t1, t2, fun i hi => (t3 i hi).1⟩, h5, h6, h7⟩
theorem RStepR.step {w : World} {v : Value} {N b : Nat} {ps : List Nat} {R : Nat → Prop} (h : RStepR w v N b ps R) : RStepV w v N b ps := by
  obtain ⟨A, l, c, B, m, d, C, n, e, h1, h2, h3, ⟨ts, t1, t2, t3⟩, h5, h6, h7, -⟩ := h
  exact ⟨A, l, c, B, m, d, C, n, e, h1, h2, h3, ⟨ts, t1, t2, fun i hi => (t3 i hi).1⟩, h5, h6, h7⟩
theorem StepR.apart {w w' : World} {v : Value} {N b : Nat} {ps : List Nat} {R R' T : Nat → Prop} (h : StepR w v N b ps R) (hU : Upd T w w') (hT : ∀ k, R k → ¬ T k) (hR : ∀ k, R k → R' k) : StepR w' v N b ps R' := by
  obtain ⟨A, l, c, B, m, d, C, n, e, h1, h2, h3, ⟨ts, t1, t2, t3⟩, h5, h6, h7, r1, r2, r3⟩ := h
  exact ⟨A, l, c, B, m, d, C, n, e, h1, NatV.apart h2 hU (fun k hk => hT k (r1 k hk)), NatV.apart h3 hU (fun k hk => hT k (r2 k hk)), ⟨ts, t1, t2.upd hU (fun b o hb => hT b (r3 b (by rw [hb]; simp [inA]))), fun i hi => ⟨NatV.apart (t3 i hi).1 hU (fun k hk => hT k ((t3 i hi).2 k hk)), fun k hk => hR k ((t3 i hi).2 k hk)⟩⟩, h5, h6, h7, fun k hk => hR k (r1 k hk), fun k hk => hR k (r2 k hk), fun k hk => hR k (r3 k hk)⟩
theorem RStepR.apart {w w' : World} {v : Value} {N b : Nat} {ps : List Nat} {R R' T : Nat → Prop} (h : RStepR w v N b ps R) (hU : Upd T w w') (hT : ∀ k, R k → ¬ T k) (hR : ∀ k, R k → R' k) : RStepR w' v N b ps R' := by
  obtain ⟨A, l, c, B, m, d, C, n, e, h1, h2, h3, ⟨ts, t1, t2, t3⟩, h5, h6, h7, r1, r2, r3⟩ := h
  exact ⟨A, l, c, B, m, d, C, n, e, h1, RefV.apart h2 hU (fun k hk => hT k (r1 k hk)), RefV.apart h3 hU (fun k hk => hT k (r2 k hk)), ⟨ts, t1, t2.upd hU (fun b o hb => hT b (r3 b (by rw [hb]; simp [inA]))), fun i hi => ⟨RefV.apart (t3 i hi).1 hU (fun k hk => hT k ((t3 i hi).2 k hk)), fun k hk => hR k ((t3 i hi).2 k hk)⟩⟩, h5, h6, h7, fun k hk => hR k (r1 k hk), fun k hk => hR k (r2 k hk), fun k hk => hR k (r3 k hk)⟩
/-- no part of the rows under way, and not old -/
def Off (w : World) (B : Nat) (D F A : Option Addr) : Prop := ∀ k, inA A k → (B ≤ k ∧ k < w.heap.size) ∧ ¬ inA D k ∧ ¬ inA F k
theorem Off.ext {w w' : World} {B : Nat} {D F A : Option Addr} {T : Nat → Prop} (h : Off w B D F A) (hu : Upd T w w') : Off w' B D F A := fun k hk => ⟨⟨(h k hk).1.1, Nat.lt_of_lt_of_le (h k hk).1.2 hu.size⟩, (h k hk).2⟩
theorem gat_snoc_left {α : Type} [Inhabited α] {xs : List α} {x : α} {i : Nat} (h : i < xs.length) : gat (xs ++ [x]) i = gat xs i := gat_append_left h
theorem gat_snoc_last {α : Type} [Inhabited α] {xs : List α} {x : α} {i : Nat} (h : i = xs.length) : gat (xs ++ [x]) i = x := by
  rw [gat_append_right (by omega), h, Nat.sub_self]; rfl
end Go.Proofs.YtoekbomfepedcaaGreat
