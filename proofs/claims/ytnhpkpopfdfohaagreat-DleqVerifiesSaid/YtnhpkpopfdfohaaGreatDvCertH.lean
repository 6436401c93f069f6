/- A claim as a step, walked: step. -/
import Derived.Test.YtnhpkpopfdfohaaGreatDvCertG
import Derived.Deep.DeepCutAuto
namespace Go.Proofs.YtnhpkpopfdfohaaGreat
set_option linter.unusedSimpArgs false
set_option linter.unusedVariables false
open Go.RowKit
open Nt Pk
attribute [local go_sem] steady steadyUpon Cls same_cell anyW
attribute [local irreducible] wpHead wpTree wpHeadR
theorem Three.new_at {w : World} {g : Nat} {t : TypeId} {a b c : Value} (hg : w.heap.size = g) : Three (w.alloc (.cells #[a, b, c] t)) g t a b c := by subst hg; exact Three.new _ _ _ _ _
def StepR (w : World) (v : Value) (N b : Nat) (ps : List Nat) (R : Nat → Prop) : Prop :=
  ∃ A l c B m d C n e, v = .agg #[.slice A l c, .slice B m d, .slice C n e] ∧ NatV w (.agg #[.slice A l c]) N ∧ NatV w (.agg #[.slice B m d]) b ∧ (∃ ts : List Tri, ts.length = ps.length ∧ Sl svt w C ts ∧ ∀ i, i < ps.length → NatV w (.agg #[svt (gat ts i)]) (gat ps i) ∧ ∀ k, inA (gat ts i).1 k → R k) ∧ ps.length = n ∧ n ≤ e ∧ e ≤ maxLen ∧
    (∀ k, inA A k → R k) ∧ (∀ k, inA B k → R k) ∧ (∀ k, inA C k → R k)
def RStepR (w : World) (v : Value) (N b : Nat) (ps : List Nat) (R : Nat → Prop) : Prop :=
  ∃ A l c B m d C n e, v = .agg #[.slice A l c, .slice B m d, .slice C n e] ∧ RefV w (.slice A l c) N ∧ RefV w (.slice B m d) b ∧ (∃ ts : List Tri, ts.length = ps.length ∧ Sl svt w C ts ∧ ∀ i, i < ps.length → RefV w (svt (gat ts i)) (gat ps i) ∧ ∀ k, inA (gat ts i).1 k → R k) ∧ ps.length = n ∧ n ≤ e ∧ e ≤ maxLen ∧
    (∀ k, inA A k → R k) ∧ (∀ k, inA B k → R k) ∧ (∀ k, inA C k → R k)
theorem StepR.step {w : World} {v : Value} {N b : Nat} {ps : List Nat} {R : Nat → Prop} (h : StepR w v N b ps R) : StepV w v N b ps := by
  obtain ⟨A, l, c, B, m, d, C, n, e, h1, h2, h3, ⟨ts, t1, t2, t3⟩, h5, h6, h7, -⟩ := h
  exact ⟨A, l, c, B, m, d, C, n, e, h1, h2, h3, ⟨ts, t1, t2, fun i hi => (t3 i hi).1⟩, h5, h6, h7⟩
theorem RStepR.step {w : World} {v : Value} {N b : Nat} {ps : List Nat} {R : Nat → Prop} (h : RStepR w v N b ps R) : RStepV w v N b ps := by
  obtain ⟨A, l, c, B, m, d, C, n, e, h1, h2, h3, ⟨ts, t1, t2, t3⟩, h5, h6, h7, -⟩ := h
  exact ⟨A, l, c, B, m, d, C, n, e, h1, h2, h3, ⟨ts, t1, t2, fun i hi => (t3 i hi).1⟩, h5, h6, h7⟩
theorem StepR.apart {w w' : World} {v : Value} {N b : Nat} {ps : List Nat} {R R' T : Nat → Prop} (h : StepR w v N b ps R) (hU : Upd T w w') (hT : ∀ k, R k → ¬ T k) (hR : ∀ k, R k → R' k) : StepR w' v N b ps R' := by
  obtain ⟨A, l, c, B, m, d, C, n, e, h1, h2, h3, ⟨ts, t1, t2, t3⟩, h5, h6, h7, r1, r2, r3⟩ := h
  exact ⟨A, l, c, B, m, d, C, n, e, h1, NatV.apart h2 hU (fun k hk => hT k (r1 k hk)), NatV.apart h3 hU (fun k hk => hT k (r2 k hk)), ⟨ts, t1, t2.upd hU (fun b o hb => hT b (r3 b (by rw [hb]; simp [inA]))), fun i hi => ⟨NatV.apart (t3 i hi).1 hU (fun k hk => hT k ((t3 i hi).2 k hk)), fun k hk => hR k ((t3 i hi).2 k hk)⟩⟩, h5, h6, h7, fun k hk => hR k (r1 k hk), fun k hk => hR k (r2 k hk), fun k hk => hR k (r3 k hk)⟩
theorem RStepR.apart {w w' : World} {v : Value} {N b : Nat} {ps : List Nat} {R R' T : Nat → Prop} (h : RStepR w v N b ps R) (hU : Upd T w w') (hT : ∀ k, R k → ¬ T k) (hR : ∀ k, R k → R' k) : RStepR w' v N b ps R' := by
  obtain ⟨A, l, c, B, m, d, C, n, e, h1, h2, h3, ⟨ts, t1, t2, t3⟩, h5, h6, h7, r1, r2, r3⟩ := h
  exact ⟨A, l, c, B, m, d, C, n, e, h1, RefV.apart h2 hU (fun k hk => hT k (r1 k hk)), RefV.apart h3 hU (fun k hk => hT k (r2 k hk)), ⟨ts, t1, t2.upd hU (fun b o hb => hT b (r3 b (by rw [hb]; simp [inA]))), fun i hi => ⟨RefV.apart (t3 i hi).1 hU (fun k hk => hT k ((t3 i hi).2 k hk)), fun k hk => hR k ((t3 i hi).2 k hk)⟩⟩, h5, h6, h7, fun k hk => hR k (r1 k hk), fun k hk => hR k (r2 k hk), fun k hk => hR k (r3 k hk)⟩
def Off (w : World) (B : Nat) (D F A : Option Addr) : Prop := ∀ k, inA A k → (B ≤ k ∧ k < w.heap.size) ∧ ¬ inA D k ∧ ¬ inA F k
theorem Off.ext {w w' : World} {B : Nat} {D F A : Option Addr} {T : Nat → Prop} (h : Off w B D F A) (hu : Upd T w w') : Off w' B D F A := fun k hk => ⟨⟨(h k hk).1.1, Nat.lt_of_lt_of_le (h k hk).1.2 hu.size⟩, (h k hk).2⟩
end Go.Proofs.YtnhpkpopfdfohaaGreat
