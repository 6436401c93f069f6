/- A claim as a step, walked: step. -/
import Derived.Test.YtpffdpieciaooaaCertG
import Derived.Deep.DeepCutAuto
namespace Go.Proofs.Ytpffdpieciaooaa
set_option linter.unusedSimpArgs false
set_option linter.unusedVariables false
open Go.RowKit
open Nt Pk
attribute [local go_sem] steady steadyUpon Cls same_cell anyW
attribute [local irreducible] wpHead wpTree wpHeadR
theorem Try.n_elR : ElemI Try.prog 73 32 (.slice none 0 0) 24 := ⟨by kernel_rfl, by kernel_rfl, rfl⟩
def e64 (x : Nat) : Value := .int .u64 (x : Int)
def W64 (x : Nat) : Prop := x < 18446744073709551616
theorem Three.new_at {w : World} {g : Nat} {t : TypeId} {a b c : Value} (hg : w.heap.size = g) : Three (w.alloc (.cells #[a, b, c] t)) g t a b c := by subst hg; exact Three.new _ _ _ _ _
/-- three cells are written -/
theorem store3 {w : World} {g : Nat} {t : TypeId} {a b c : Value} (h : Three w g t a b c) (x y z : Value) : Three (((w.setCell ⟨g, 0, none⟩ x).setCell ⟨g, 1, none⟩ y).setCell ⟨g, 2, none⟩ z) g t x y z ∧ Upd (only g) w (((w.setCell ⟨g, 0, none⟩ x).setCell ⟨g, 1, none⟩ y).setCell ⟨g, 2, none⟩ z) :=
  ⟨((h.set0 x).set1 y).set2 z, (((Upd.refl _ _).setCell (T := only g) (p := ⟨g, 0, none⟩) (.inl rfl) _).setCell (p := ⟨g, 1, none⟩) (.inl rfl) _).setCell (p := ⟨g, 2, none⟩) (.inl rfl) _⟩
theorem store3e {w : World} {g : Nat} {t : TypeId} {a b c : Value} (h : Three w g t a b c) (x y z : Value) : ∃ w', w' = (((w.setCell ⟨g, 0, none⟩ x).setCell ⟨g, 1, none⟩ y).setCell ⟨g, 2, none⟩ z) ∧ Three w' g t x y z ∧ Upd (only g) w w' :=
  ⟨_, rfl, (store3 h x y z).1, (store3 h x y z).2⟩
theorem Upd.redrew {T : Nat → Prop} {w w' : World} (h : Upd T w w') : Upd T w.drew w' := ⟨h.os, h.tape, h.output, h.size, h.block⟩
theorem name_b {P : Program} {f : Func} {Q : Ending → World → Prop} {x : Exit} {a : Act} {W : World} (h : ∀ W', W' = W → bodyPost P f Q x a W') : bodyPost P f Q x a W := h W rfl
theorem NatV.store3 {w w' : World} {g : Nat} {t : TypeId} {a b c v : Value} {n : Nat} (h : NatV w v n) (hg : Three w g t a b c) (ha : softV a = true) (hb : softV b = true) (hc : softV c = true) (hU : Upd (Go.Proofs.Ytpffdpieciaooaa.only g) w w') : NatV w' v n :=
  h.changew hU fun k hk => by
    have : k = g := hk
    subst this
    exact hg.zw ha hb hc
theorem RefV.store3 {w w' : World} {g : Nat} {t : TypeId} {a b c v : Value} {n : Nat} (h : RefV w v n) (hg : Three w g t a b c) (ha : softV a = true) (hb : softV b = true) (hc : softV c = true) (hU : Upd (Go.Proofs.Ytpffdpieciaooaa.only g) w w') : RefV w' v n :=
  h.changew hU fun k hk => by
    have : k = g := hk
    subst this
    exact hg.zw ha hb hc
/-- in new memory -/
def New (w w' : World) (A : Option Addr) : Prop := ∀ k, inA A k → w.heap.size ≤ k ∧ k < w'.heap.size
theorem New.up {w w' a b : World} {A : Option Addr} (h : New a b A) (ha : w.heap.size ≤ a.heap.size) (hb : b.heap.size ≤ w'.heap.size) : New w w' A := fun k hk => ⟨Nat.le_trans ha (h k hk).1, Nat.lt_of_lt_of_le (h k hk).2 hb⟩
/-- A step, all of whose rows lie in blocks of R. -/
def StepR (w : World) (v : Value) (N b : Nat) (ps : List Nat) (R : Nat → Prop) : Prop :=
  ∃ A l c B m d C n e, v = .agg #[.slice A l c, .slice B m d, .slice C n e] ∧ NatV w (.agg #[.slice A l c]) N ∧ NatV w (.agg #[.slice B m d]) b ∧ (∃ ts : List Tri, ts.length = ps.length ∧ Sl svt w C ts ∧ ∀ i, i < ps.length → NatV w (.agg #[svt (gat ts i)]) (gat ps i) ∧ ∀ k, inA (gat ts i).1 k → R k) ∧ ps.length = n ∧ n ≤ e ∧ e ≤ maxLen ∧
    (∀ k, inA A k → R k) ∧ (∀ k, inA B k → R k) ∧ (∀ k, inA C k → R k)
def RStepR (w : World) (v : Value) (N b : Nat) (ps : List Nat) (R : Nat → Prop) : Prop :=
  ∃ A l c B m d C n e, v = .agg #[.slice A l c, .slice B m d, .slice C n e] ∧ RefV w (.slice A l c) N ∧ RefV w (.slice B m d) b ∧ (∃ ts : List Tri, ts.length = ps.length ∧ Sl svt w C ts ∧ ∀ i, i < ps.length → RefV w (svt (gat ts i)) (gat ps i) ∧ ∀ k, inA (gat ts i).1 k → R k) ∧ ps.length = n ∧ n ≤ e ∧ e ≤ maxLen ∧
    (∀ k, inA A k → R k) ∧ (∀ k, inA B k → R k) ∧ (∀ k, inA C k → R k)
theorem StepR.step {w : World} {v : Value} {N b : Nat} {ps : List Nat} {R : Nat → Prop} (h : StepR w v N b ps R) : StepV w v N b ps := by
  obtain ⟨A, l, c, B, m, d, C, n, e, h1, h2, h3, ⟨ts, t1, t2, t3⟩, h5, h6, h7, -⟩ := h
  exact ⟨A, l, c, B, m, d, C, n, e, h1, h2, h3, ⟨ts, t1, t2, fun i hi => (t3 i hi).1⟩, h5, h6, h7⟩
theorem RStepR.step {w : World} {v : Value} {N b : Nat} {ps : List Nat} {R : Nat → Prop} (h : RStepR w v N b ps R) : RStepV w v N b ps := by
  obtain ⟨A, l, c, B, m, d, C, n, e, h1, h2, h3, ⟨ts, t1, t2, t3⟩, h5, h6, h7, -⟩ := h
  exact ⟨A, l, c, B, m, d, C, n, e, h1, h2, h3, ⟨ts, t1, t2, fun i hi => (t3 i hi).1⟩, h5, h6, h7⟩
theorem StepR.apart {w w' : World} {v : Value} {N b : Nat} {ps : List Nat} {R R' T : Nat → Prop} (h : StepR w v N b ps R) (hU : Upd T w w') (hT : ∀ k, R k → ¬ T k) (hR : ∀ k, R k → R' k) : StepR w' v N b ps R' := by
  obtain ⟨A, l, c, B, m, d, C, n, e, h1, h2, h3, ⟨ts, t1, t2, t3⟩, h5, h6, h7, r1, r2, r3⟩ := h
  exact ⟨A, l, c, B, m, d, C, n, e, h1, NatV.apart h2 hU (fun k hk => hT k (r1 k hk)), NatV.apart h3 hU (fun k hk => hT k (r2 k hk)), ⟨ts, t1, t2.upd hU (fun b o hb => hT b (r3 b (by rw [hb]; simp [inA]))), fun i hi => ⟨NatV.apart (t3 i hi).1 hU (fun k hk => hT k ((t3 i hi).2 k hk)), fun k hk => hR k ((t3 i hi).2 k hk)⟩⟩, h5, h6, h7, fun k hk => hR k (r1 k hk), fun k hk => hR k (r2 k hk), fun k hk => hR k (r3 k hk)⟩
theorem RStepR.apart {w w' : World} {v : Value} {N b : Nat} {ps : List Nat} {R R' T : Nat → Prop} (h : RStepR w v N b ps R) (hU : Upd T w w') (hT : ∀ k, R k → ¬ T k) (hR : ∀ k, R k → R' k) : RStepR w' v N b ps R' := by
  obtain ⟨A, l, c, B, m, d, C, n, e, h1, h2, h3, ⟨ts, t1, t2, t3⟩, h5, h6, h7, r1, r2, r3⟩ := h
  exact ⟨A, l, c, B, m, d, C, n, e, h1, RefV.apart h2 hU (fun k hk => hT k (r1 k hk)), RefV.apart h3 hU (fun k hk => hT k (r2 k hk)), ⟨ts, t1, t2.upd hU (fun b o hb => hT b (r3 b (by rw [hb]; simp [inA]))), fun i hi => ⟨RefV.apart (t3 i hi).1 hU (fun k hk => hT k ((t3 i hi).2 k hk)), fun k hk => hR k ((t3 i hi).2 k hk)⟩⟩, h5, h6, h7, fun k hk => hR k (r1 k hk), fun k hk => hR k (r2 k hk), fun k hk => hR k (r3 k hk)⟩
/-- no part of the rows under way, and not old -/
def Off (w : World) (B : Nat) (D F A : Option Addr) : Prop := ∀ k, inA A k → (B ≤ k ∧ k < w.heap.size) ∧ ¬ inA D k ∧ ¬ inA F k
/-- Two steps under way: the program's in block g4, the document's in block g5. -/
structure Wk (w : World) (B g4 g5 : Nat) (x4 y4 x5 y5 : Value) (D F : Option Addr) (lD cD lF cF : Nat) (tb rb : List Tri) (ps qs : List Nat) : Prop where
  t4 : Three w g4 72 x4 y4 (.slice D lD cD)
  t5 : Three w g5 75 x5 y5 (.slice F lF cF)
  s4 : softV x4 = true ∧ softV y4 = true
  s5 : softV x5 = true ∧ softV y5 = true
  oD : Own w B 37 D cD (tb.map svt)
  oF : Own w B 32 F cF (rb.map svt)
  ltb : tb.length = lD
  lrb : rb.length = lF
  lps : ps.length = lD
  lqs : qs.length = lF
  nt : ∀ i, i < lD → NatV w (.agg #[svt (gat tb i)]) (gat ps i) ∧ Off w B D F (gat tb i).1
  rt : ∀ i, i < lF → RefV w (svt (gat rb i)) (gat qs i) ∧ Off w B D F (gat rb i).1
theorem Off.ext {w w' : World} {B : Nat} {D F A : Option Addr} {T : Nat → Prop} (h : Off w B D F A) (hu : Upd T w w') : Off w' B D F A := fun k hk => ⟨⟨(h k hk).1.1, Nat.lt_of_lt_of_le (h k hk).1.2 hu.size⟩, (h k hk).2⟩
theorem Wk.ext {w w' : World} {B g4 g5 : Nat} {x4 y4 x5 y5 : Value} {D F : Option Addr} {lD cD lF cF : Nat} {tb rb : List Tri} {ps qs : List Nat} (h : Wk w B g4 g5 x4 y4 x5 y5 D F lD cD lF cF tb rb ps qs) (hu : Ext w w') : Wk w' B g4 g5 x4 y4 x5 y5 D F lD cD lF cF tb rb ps qs :=
  ⟨h.t4.ext hu, h.t5.ext hu, h.s4, h.s5, h.oD.ext hu, h.oF.ext hu, h.ltb, h.lrb, h.lps, h.lqs, fun i hi => ⟨(h.nt i hi).1.ext hu, (h.nt i hi).2.ext hu⟩, fun i hi => ⟨(h.rt i hi).1.ext hu, (h.rt i hi).2.ext hu⟩⟩
theorem gat_snoc_left {α : Type} [Inhabited α] {xs : List α} {x : α} {i : Nat} (h : i < xs.length) : gat (xs ++ [x]) i = gat xs i := gat_append_left h
theorem gat_snoc_last {α : Type} [Inhabited α] {xs : List α} {x : α} {i : Nat} (h : i = xs.length) : gat (xs ++ [x]) i = x := by
  rw [gat_append_right (by omega), h, Nat.sub_self]; rfl
theorem Wk.push4 {w w1 w3 : World} {B g4 g5 : Nat} {x4 y4 x5 y5 : Value} {D F D2 : Option Addr} {lD cD lF cF c2 : Nat} {tb rb : List Tri} {ps qs : List Nat} {A : Option Addr} {l c p : Nat} (h : Wk w B g4 g5 x4 y4 x5 y5 D F lD cD lF cF tb rb ps qs) (hB : B ≤ w.heap.size)
    (hE : Ext w w1) (hV : NatV w1 (.agg #[.slice A l c]) p) (hA : ∀ k, inA A k → w.heap.size ≤ k ∧ k < w1.heap.size) (hO : Own w3 B 37 D2 c2 ((tb ++ [((A, l, c) : Tri)]).map svt)) (hU : Upd (inA D) w1 w3) (hin : ∀ k, inA D2 k → inA D k ∨ k = w1.heap.size) :
    Wk (w3.setCell ⟨g4, 2, none⟩ (.slice D2 (lD + 1) c2)) B g4 g5 x4 y4 x5 y5 D2 F (lD + 1) c2 lF cF (tb ++ [((A, l, c) : Tri)]) rb (ps ++ [p]) qs ∧ Upd (fun k => k = g4 ∨ B ≤ k) w (w3.setCell ⟨g4, 2, none⟩ (.slice D2 (lD + 1) c2)) := by
  have h1 := h.ext hE
  have n4 : ¬ inA D g4 := own_three h1.oD h1.t4 (by decide)
  have n5 : ¬ inA D g5 := own_three h1.oD h1.t5 (by decide)
  have t4 := h1.t4.upd hU n4
  have t5 := h1.t5.upd hU n5
  have oF := h1.oF.upd hU (fun k hk => own_apart h1.oF h1.oD (by decide) hk)
  have z4 : ∀ b, only g4 b → Zw w3 b := fun b hb => by
    have : b = g4 := hb
    subst this
    exact t4.zw h.s4.1 h.s4.2 rfl
  have m4 : ¬ inA D2 g4 := own_three hO t4 (by decide)
  have m4F : ¬ inA F g4 := own_three oF t4 (by decide)
  have n45 : g5 ≠ g4 := fun e => by
    have a := h.t4
    have b := h.t5
    rw [e] at b
    unfold Three at a b
    rw [a] at b
    injection b with b
    injection b with _ b
    exact absurd b (by decide)
  have hU4 : Upd (only g4) w3 (w3.setCell ⟨g4, 2, none⟩ (.slice D2 (lD + 1) c2)) := (Upd.refl _ _).setCell (T := only g4) (p := ⟨g4, 2, none⟩) (.inl rfl) _
  have sz : w1.heap.size ≤ w3.heap.size := hU.size
  have off : ∀ A', Off w1 B D F A' → Off (w3.setCell ⟨g4, 2, none⟩ (.slice D2 (lD + 1) c2)) B D2 F A' := fun A' ho k hk => by
    obtain ⟨⟨o0, o1⟩, o2, o3⟩ := ho k hk
    exact ⟨⟨o0, Nat.lt_of_lt_of_le o1 (Nat.le_trans sz hU4.size)⟩, fun hd => (hin k hd).elim o2 (fun e => by omega), o3⟩
  refine ⟨⟨t4.set2 _, t5.far (p := ⟨g4, 2, none⟩) n45 _, h.s4, h.s5, hO.upd hU4 (fun k hk e => by have : k = g4 := e; subst this; exact m4 hk), oF.upd hU4 (fun k hk e => by have : k = g4 := e; subst this; exact m4F hk), by rw [List.length_append, h.ltb]; rfl, h.lrb, by rw [List.length_append, h.lps]; rfl, h.lqs, fun i hi => ?_, fun i hi => ?_⟩, ?_⟩
  · by_cases hlt : i < lD
    · rw [gat_snoc_left (by rw [h.ltb]; exact hlt), gat_snoc_left (by rw [h.lps]; exact hlt)]
      obtain ⟨q1, q2⟩ := h1.nt i hlt
      exact ⟨(NatV.apart q1 hU (fun k hk => (q2 k hk).2.1)).changew hU4 z4, off _ q2⟩
    · have e : i = lD := by omega
      rw [gat_snoc_last (by rw [h.ltb]; exact e), gat_snoc_last (by rw [h.lps]; exact e)]
      have hD : ∀ k, inA A k → ¬ inA D k := fun k hk hd => by
        have a := (hA k hk).1
        have b := (h.oD.in_ hd).2
        omega
      refine ⟨(NatV.apart hV hU hD).changew hU4 z4, fun k hk => ⟨⟨Nat.le_trans hB (hA k hk).1, Nat.lt_of_lt_of_le (hA k hk).2 (Nat.le_trans sz hU4.size)⟩, fun hd => (hin k hd).elim (hD k hk) (fun e => by have := (hA k hk).2; omega), fun hf => ?_⟩⟩
      have a := (hA k hk).1
      have b := (h.oF.in_ hf).2
      omega
  · obtain ⟨q1, q2⟩ := h1.rt i hi
    exact ⟨(RefV.apart q1 hU (fun k hk => (q2 k hk).2.1)).changew hU4 z4, off _ q2⟩
  · refine Upd.setCell ?_ (p := ⟨g4, 2, none⟩) (.inl (.inl rfl)) _
    exact (Upd.ofExt hE).trans' hU (fun i hi hd => .inr (h1.oD.in_ hd).1) |>.mono (fun _ _ h => h)
theorem Wk.push5 {w w1 w3 : World} {B g4 g5 : Nat} {x4 y4 x5 y5 : Value} {D F F2 : Option Addr} {lD cD lF cF c2 : Nat} {tb rb : List Tri} {ps qs : List Nat} {A : Option Addr} {l c p : Nat} (h : Wk w B g4 g5 x4 y4 x5 y5 D F lD cD lF cF tb rb ps qs) (hB : B ≤ w.heap.size)
    (hE : Ext w w1) (hV : RefV w1 (.slice A l c) p) (hA : ∀ k, inA A k → w.heap.size ≤ k ∧ k < w1.heap.size) (hO : Own w3 B 32 F2 c2 ((rb ++ [((A, l, c) : Tri)]).map svt)) (hU : Upd (inA F) w1 w3) (hin : ∀ k, inA F2 k → inA F k ∨ k = w1.heap.size) :
    Wk (w3.setCell ⟨g5, 2, none⟩ (.slice F2 (lF + 1) c2)) B g4 g5 x4 y4 x5 y5 D F2 lD cD (lF + 1) c2 tb (rb ++ [((A, l, c) : Tri)]) ps (qs ++ [p]) ∧ Upd (fun k => k = g5 ∨ B ≤ k) w (w3.setCell ⟨g5, 2, none⟩ (.slice F2 (lF + 1) c2)) := by
  have h1 := h.ext hE
  have n4 : ¬ inA F g4 := own_three h1.oF h1.t4 (by decide)
  have n5 : ¬ inA F g5 := own_three h1.oF h1.t5 (by decide)
  have t4 := h1.t4.upd hU n4
  have t5 := h1.t5.upd hU n5
  have oD := h1.oD.upd hU (fun k hk => own_apart h1.oD h1.oF (by decide) hk)
  have z5 : ∀ b, only g5 b → Zw w3 b := fun b hb => by
    have : b = g5 := hb
    subst this
    exact t5.zw h.s5.1 h.s5.2 rfl
  have m5 : ¬ inA F2 g5 := own_three hO t5 (by decide)
  have m5D : ¬ inA D g5 := own_three oD t5 (by decide)
  have n45 : g4 ≠ g5 := fun e => by
    have a := h.t4
    have b := h.t5
    rw [← e] at b
    unfold Three at a b
    rw [a] at b
    injection b with b
    injection b with _ b
    exact absurd b (by decide)
  have hU4 : Upd (only g5) w3 (w3.setCell ⟨g5, 2, none⟩ (.slice F2 (lF + 1) c2)) := (Upd.refl _ _).setCell (T := only g5) (p := ⟨g5, 2, none⟩) (.inl rfl) _
  have sz : w1.heap.size ≤ w3.heap.size := hU.size
  have off : ∀ A', Off w1 B D F A' → Off (w3.setCell ⟨g5, 2, none⟩ (.slice F2 (lF + 1) c2)) B D F2 A' := fun A' ho k hk => by
    obtain ⟨⟨o0, o1⟩, o2, o3⟩ := ho k hk
    exact ⟨⟨o0, Nat.lt_of_lt_of_le o1 (Nat.le_trans sz hU4.size)⟩, o2, fun hd => (hin k hd).elim o3 (fun e => by omega)⟩
  refine ⟨⟨t4.far (p := ⟨g5, 2, none⟩) n45 _, t5.set2 _, h.s4, h.s5, oD.upd hU4 (fun k hk e => by have : k = g5 := e; subst this; exact m5D hk), hO.upd hU4 (fun k hk e => by have : k = g5 := e; subst this; exact m5 hk), h.ltb, by rw [List.length_append, h.lrb]; rfl, h.lps, by rw [List.length_append, h.lqs]; rfl, fun i hi => ?_, fun i hi => ?_⟩, ?_⟩
  · obtain ⟨q1, q2⟩ := h1.nt i hi
    exact ⟨(NatV.apart q1 hU (fun k hk => (q2 k hk).2.2)).changew hU4 z5, off _ q2⟩
  · by_cases hlt : i < lF
    · rw [gat_snoc_left (by rw [h.lrb]; exact hlt), gat_snoc_left (by rw [h.lqs]; exact hlt)]
      obtain ⟨q1, q2⟩ := h1.rt i hlt
      exact ⟨(RefV.apart q1 hU (fun k hk => (q2 k hk).2.2)).changew hU4 z5, off _ q2⟩
    · have e : i = lF := by omega
      rw [gat_snoc_last (by rw [h.lrb]; exact e), gat_snoc_last (by rw [h.lqs]; exact e)]
      have hF : ∀ k, inA A k → ¬ inA F k := fun k hk hd => by
        have a := (hA k hk).1
        have b := (h.oF.in_ hd).2
        omega
      refine ⟨(RefV.apart hV hU hF).changew hU4 z5, fun k hk => ⟨⟨Nat.le_trans hB (hA k hk).1, Nat.lt_of_lt_of_le (hA k hk).2 (Nat.le_trans sz hU4.size)⟩, fun hd => ?_, fun hd => (hin k hd).elim (hF k hk) (fun e => by have := (hA k hk).2; omega)⟩⟩
      have a := (hA k hk).1
      have b := (h.oD.in_ hd).2
      omega
  · refine Upd.setCell ?_ (p := ⟨g5, 2, none⟩) (.inl (.inl rfl)) _
    exact (Upd.ofExt hE).trans' hU (fun i hi hd => .inr (h1.oF.in_ hd).1) |>.mono (fun _ _ h => h)
set_option maxRecDepth 100000 in
set_option maxHeartbeats 8000000 in
theorem cstep_any (P : Option Addr) (n c N b : Nat) (ps : List Nat) (w : World) (hN : Hid (W64 N)) (hb : Hid (W64 b)) (hps : Hid (∀ i, i < ps.length → W64 (gat ps i))) (hS : Sl e64 w P ps) (hn : ps.length = n) (hn2 : n ≤ 1000) (hnc : n ≤ c) (hcm : c ≤ maxLen) :
    Calls Try.prog 44 #[.agg #[.int .u64 N, .int .u64 b, .slice P n c]] w fun e w' => ∃ va vb, e = .returned (.tuple #[va, vb]) ∧ StepR w' va N b ps (fun k => w.heap.size ≤ k ∧ k < w'.heap.size) ∧ RStepR w' vb N b ps (fun k => w.heap.size ≤ k ∧ k < w'.heap.size) ∧ Ext w w' := by
  have Hn := hide hn
  have HS := hide hS
  clear hn hS
  go_enter Try.func44, Try.ntmps44
  go_wp2_with fail
  refine name_w (fun W hW => ?_)
  have c1 : Three W w.heap.size 62 (.int .u64 N) (.int .u64 b) (.slice P n c) := by rw [hW]; exact ((Three.new _ _ _ _ _).alloc _).alloc _
  have r2 : Three W (w.heap.size + 1) 72 (.slice none 0 0) (.slice none 0 0) (.slice none 0 0) := by rw [hW]; exact (Three.new_at (by simp)).alloc _
  have r3 : Three W (w.heap.size + 1 + 1) 75 (.slice none 0 0) (.slice none 0 0) (.slice none 0 0) := by rw [hW]; exact Three.new_at (by simp)
  have hE : Ext w W := by rw [hW]; exact (((Upd.refl _ w).alloc _).alloc _).alloc _
  clear hW
  have k0 := fun z : Wd (Ext W.drew) => (z.ok.cell (p := ⟨w.heap.size, 0, none⟩) c1.drew.lt (fun h => h)).trans c1.drew.cell0
  have k1 := fun z : Wd (Ext W.drew) => (z.ok.cell (p := ⟨w.heap.size, 1, none⟩) c1.drew.lt (fun h => h)).trans c1.drew.cell1
  go_cut [4] (fun s4 wx => ∃ (g : Nat) (A1 : Option Addr) (l1 c1 : Nat) (A2 : Option Addr) (l2 c2 : Nat), s4 = .pointer (some ⟨g, 0, none⟩) ∧ Three wx g 72 (.slice A1 l1 c1) (.slice A2 l2 c2) (.slice none 0 0) ∧ NatV wx (.agg #[.slice A1 l1 c1]) N ∧ NatV wx (.agg #[.slice A2 l2 c2]) b ∧ W.heap.size ≤ g ∧ New W wx A1 ∧ New W wx A2 ∧ Ext W wx)
  case first =>
    refine wp_region_tree (Ext _) 8 (.q 0 (.q 1 (.q 3 (.q 4 (.two 2 7 (.two 5 7 (.q 6 (.l 7 .done)) (.l 5 (.q 6 .done))) (.l 2 (.l 5 (.q 6 .done)))))))) (by kernel_rfl) (by kernel_rfl) (Upd.refl _ _) (fun hne => ?_)
    repeat (refine tree_q rfl (fun K hK => ?_); go_simp; refine hK _ ?_; clear hK K)
    refine tree_two rfl rfl ?_ ?_
    · go_wp2_with fail
      refine (new_fresh N _ hN.out).mono ?_
      rintro e w1 ⟨A1, l1, d1, rfl, hf1, hV1, hU1⟩
      go_wp2_with fail
      refine ⟨_, fun _ h => h, ⟨⟨_, hU1⟩, rfl⟩, ?_⟩
      repeat (refine tree_q rfl (fun K hK => ?_); go_simp; refine hK _ ?_; clear hK K)
      refine tree_two rfl rfl ?_ ?_
      · go_wp2_with fail
        refine (new_fresh b _ hb.out).mono ?_
        rintro e w2 ⟨A2, l2, d2, rfl, hf2, hV2, hU2⟩
        go_wp2_with fail
        refine ⟨_, fun _ h => h, ⟨⟨_, (hU1.trans hU2)⟩, rfl⟩, ?_⟩
        repeat (refine tree_q rfl (fun K hK => ?_); go_simp; refine hK _ ?_; clear hK K)
        refine tree_l rfl ?_
        go_wp2_with fail
        refine ⟨_, fun _ h => h, ⟨⟨_, ((hU1.trans hU2).alloc _)⟩, rfl⟩, ?_⟩
        repeat (refine tree_q rfl (fun K hK => ?_); go_simp; refine hK _ ?_; clear hK K)
        refine tree_done ?_
        try simp only [List.drop_succ_cons, List.drop_zero]
        go_wp2_with fail
        go_meet
        have hE2 : Ext W w2 := (hU1.trans hU2).undrew
        exact ⟨_, _, _, _, _, _, _, rfl, Three.new _ _ _ _ _, (hV1.ext hU2).ext ((Upd.refl _ _).alloc _), hV2.ext ((Upd.refl _ _).alloc _), hE2.size, New.up hf1 (Nat.le_refl _) (by have := hU2.size; simp; omega), New.up hf2 hU1.size (by simp), hE2.alloc _⟩
      · go_wp2_with fail
        refine ⟨_, fun _ h => h, ⟨⟨_, (hU1.alloc _)⟩, rfl⟩, ?_⟩
        repeat (refine tree_q rfl (fun K hK => ?_); go_simp; refine hK _ ?_; clear hK K)
        have t4 : Three (w1.alloc (.cells #[.slice none 0 0, .slice none 0 0, .slice none 0 0] 72)) w1.heap.size 72 (.slice none 0 0) (.slice none 0 0) (.slice none 0 0) := Three.new _ _ _ _ _
        refine tree_l rfl ?_
        go_wp2_with (refine (new_fresh b _ hb.out).mono ?_; rintro e w2 ⟨A2, l2, d2, rfl, hf2, hV2, hU2⟩)
        refine ⟨_, fun _ h => h, ⟨⟨_, ((hU1.alloc _).trans hU2)⟩, rfl⟩, ?_⟩
        repeat (refine tree_q rfl (fun K hK => ?_); go_simp; refine hK _ ?_; clear hK K)
        replace t4 := t4.ext hU2
        have q0 := t4.cell0
        have q1 := t4.cell1
        have q2 := t4.cell2
        have f0 := t4.frozen 0
        have f1 := t4.frozen 1
        have f2 := t4.frozen 2
        refine tree_done ?_
        try simp only [List.drop_succ_cons, List.drop_zero]
        go_wp2_with fail
        go_meet
        have hE1 : Ext W w1 := hU1.undrew
        have hE2 : Ext W w2 := ((hU1.alloc _).trans hU2).undrew
        obtain ⟨s4, hs4⟩ := store3 t4 (.slice A1 l1 d1) (.slice A2 l2 d2) (.slice none 0 0)
        exact ⟨_, _, _, _, _, _, _, rfl, s4, ((hV1.ext ((Upd.refl _ _).alloc _)).ext hU2).store3 t4 rfl rfl rfl hs4, hV2.store3 t4 rfl rfl rfl hs4, hE1.size, New.up hf1 (Nat.le_refl _) (by have := hU2.size; simp at this ⊢; omega), New.up hf2 (by have := hE1.size; simp; omega) (by simp), Upd.fresh hs4 hE2 (fun k hk => by have : k = w1.heap.size := hk; rw [this]; exact hE1.size)⟩
    · go_wp2_with fail
      refine ⟨_, fun _ h => h, ⟨⟨_, ((Upd.refl _ _).alloc _)⟩, rfl⟩, ?_⟩
      repeat (refine tree_q rfl (fun K hK => ?_); go_simp; refine hK _ ?_; clear hK K)
      have t4 : Three (W.drew.alloc (.cells #[.slice none 0 0, .slice none 0 0, .slice none 0 0] 72)) W.heap.size 72 (.slice none 0 0) (.slice none 0 0) (.slice none 0 0) := Three.new _ _ _ _ _
      have hU0 : Ext W.drew (W.drew.alloc (.cells #[.slice none 0 0, .slice none 0 0, .slice none 0 0] 72)) := (Upd.refl _ _).alloc _
      refine tree_l rfl ?_
      go_wp2_with (refine (new_fresh N _ hN.out).mono ?_; rintro e w1 ⟨A1, l1, d1, rfl, hf1, hV1, hU1⟩)
      refine ⟨_, fun _ h => h, ⟨⟨_, (hU0.trans hU1)⟩, rfl⟩, ?_⟩
      repeat (refine tree_q rfl (fun K hK => ?_); go_simp; refine hK _ ?_; clear hK K)
      refine tree_l rfl ?_
      go_wp2_with (refine (new_fresh b _ hb.out).mono ?_; rintro e w2 ⟨A2, l2, d2, rfl, hf2, hV2, hU2⟩)
      refine ⟨_, fun _ h => h, ⟨⟨_, ((hU0.trans hU1).trans hU2)⟩, rfl⟩, ?_⟩
      repeat (refine tree_q rfl (fun K hK => ?_); go_simp; refine hK _ ?_; clear hK K)
      replace t4 := (t4.ext hU1).ext hU2
      have q0 := t4.cell0
      have q1 := t4.cell1
      have q2 := t4.cell2
      have f0 := t4.frozen 0
      have f1 := t4.frozen 1
      have f2 := t4.frozen 2
      refine tree_done ?_
      try simp only [List.drop_succ_cons, List.drop_zero]
      go_wp2_with fail
      go_meet
      have hE2 : Ext W w2 := ((hU0.trans hU1).trans hU2).undrew
      obtain ⟨s4, hs4⟩ := store3 t4 (.slice A1 l1 d1) (.slice A2 l2 d2) (.slice none 0 0)
      exact ⟨_, _, _, _, _, _, _, rfl, s4, (hV1.ext hU2).store3 t4 rfl rfl rfl hs4, hV2.store3 t4 rfl rfl rfl hs4, Nat.le_refl _, New.up hf1 (by simp) (by have := hU2.size; simp at this ⊢; omega), New.up hf2 (by have := hU1.size; simp at this ⊢; omega) (by simp), Upd.fresh hs4 hE2 (fun k hk => by have : k = W.heap.size := hk; rw [this]; exact Nat.le_refl _)⟩
  case rest =>
    obtain ⟨g4, A1, l1, d1, A2, l2, d2, rfl, t4, hV1, hV2, hg4, hnA1, hnA2, hEc⟩ := hcut
    clear k0 k1
    go_wp2_with fail
    refine name_w (fun V hV => ?_)
    rw [← hV] at t4 hV1 hV2 hEc hnA1 hnA2
    have hWV : W.heap.size ≤ V.heap.size := hEc.size
    have hg1 : w.heap.size + 1 + 1 < W.heap.size := r3.lt
    replace c1 := c1.ext hEc
    replace r2 := r2.ext hEc
    replace r3 := r3.ext hEc
    replace hE := hE.trans hEc
    clear hV hEc
    have k0 := fun z : Wd (Ext V.drew) => (z.ok.cell (p := ⟨w.heap.size, 0, none⟩) c1.drew.lt (fun h => h)).trans c1.drew.cell0
    have k1 := fun z : Wd (Ext V.drew) => (z.ok.cell (p := ⟨w.heap.size, 1, none⟩) c1.drew.lt (fun h => h)).trans c1.drew.cell1
    go_cut [5] (fun s5 wx => ∃ (g : Nat) (A1 : Option Addr) (l1 c1 : Nat) (A2 : Option Addr) (l2 c2 : Nat), s5 = .pointer (some ⟨g, 0, none⟩) ∧ Three wx g 75 (.slice A1 l1 c1) (.slice A2 l2 c2) (.slice none 0 0) ∧ RefV wx (.slice A1 l1 c1) N ∧ RefV wx (.slice A2 l2 c2) b ∧ V.heap.size ≤ g ∧ New V wx A1 ∧ New V wx A2 ∧ Ext V wx)
    case first =>
      refine wp_region_tree (Ext _) 8 (.q 0 (.q 1 (.q 3 (.q 4 (.two 2 7 (.two 5 7 (.q 6 (.l 7 .done)) (.l 5 (.q 6 .done))) (.l 2 (.l 5 (.q 6 .done)))))))) (by kernel_rfl) (by kernel_rfl) (Upd.refl _ _) (fun hne => ?_)
      repeat (refine tree_q rfl (fun K hK => ?_); go_simp; refine hK _ ?_; clear hK K)
      refine tree_two rfl rfl ?_ ?_
      · go_wp2_with fail
        refine (rsmall_fresh N _ hN.out).mono ?_
        rintro e w1 ⟨B1, m1, e1, rfl, hf1, hV1, hU1⟩
        go_wp2_with fail
        refine ⟨_, fun _ h => h, ⟨⟨_, hU1⟩, rfl⟩, ?_⟩
        repeat (refine tree_q rfl (fun K hK => ?_); go_simp; refine hK _ ?_; clear hK K)
        refine tree_two rfl rfl ?_ ?_
        · go_wp2_with fail
          refine (rsmall_fresh b _ hb.out).mono ?_
          rintro e w2 ⟨B2, m2, e2, rfl, hf2, hV2, hU2⟩
          go_wp2_with fail
          refine ⟨_, fun _ h => h, ⟨⟨_, (hU1.trans hU2)⟩, rfl⟩, ?_⟩
          repeat (refine tree_q rfl (fun K hK => ?_); go_simp; refine hK _ ?_; clear hK K)
          refine tree_l rfl ?_
          go_wp2_with fail
          refine ⟨_, fun _ h => h, ⟨⟨_, ((hU1.trans hU2).alloc _)⟩, rfl⟩, ?_⟩
          repeat (refine tree_q rfl (fun K hK => ?_); go_simp; refine hK _ ?_; clear hK K)
          refine tree_done ?_
          try simp only [List.drop_succ_cons, List.drop_zero]
          go_wp2_with fail
          go_meet
          have hE2 : Ext V w2 := (hU1.trans hU2).undrew
          exact ⟨_, _, _, _, _, _, _, rfl, Three.new _ _ _ _ _, (hV1.ext hU2).ext ((Upd.refl _ _).alloc _), hV2.ext ((Upd.refl _ _).alloc _), hE2.size, New.up hf1 (Nat.le_refl _) (by have := hU2.size; simp; omega), New.up hf2 hU1.size (by simp), hE2.alloc _⟩
        · go_wp2_with fail
          refine ⟨_, fun _ h => h, ⟨⟨_, (hU1.alloc _)⟩, rfl⟩, ?_⟩
          repeat (refine tree_q rfl (fun K hK => ?_); go_simp; refine hK _ ?_; clear hK K)
          have t4 : Three (w1.alloc (.cells #[.slice none 0 0, .slice none 0 0, .slice none 0 0] 75)) w1.heap.size 75 (.slice none 0 0) (.slice none 0 0) (.slice none 0 0) := Three.new _ _ _ _ _
          refine tree_l rfl ?_
          go_wp2_with (refine (rsmall_fresh b _ hb.out).mono ?_; rintro e w2 ⟨B2, m2, e2, rfl, hf2, hV2, hU2⟩)
          refine ⟨_, fun _ h => h, ⟨⟨_, ((hU1.alloc _).trans hU2)⟩, rfl⟩, ?_⟩
          repeat (refine tree_q rfl (fun K hK => ?_); go_simp; refine hK _ ?_; clear hK K)
          replace t4 := t4.ext hU2
          have q0 := t4.cell0
          have q1 := t4.cell1
          have q2 := t4.cell2
          have f0 := t4.frozen 0
          have f1 := t4.frozen 1
          have f2 := t4.frozen 2
          refine tree_done ?_
          try simp only [List.drop_succ_cons, List.drop_zero]
          go_wp2_with fail
          go_meet
          have hE1 : Ext V w1 := hU1.undrew
          have hE2 : Ext V w2 := ((hU1.alloc _).trans hU2).undrew
          obtain ⟨s4, hs4⟩ := store3 t4 (.slice B1 m1 e1) (.slice B2 m2 e2) (.slice none 0 0)
          exact ⟨_, _, _, _, _, _, _, rfl, s4, ((hV1.ext ((Upd.refl _ _).alloc _)).ext hU2).store3 t4 rfl rfl rfl hs4, hV2.store3 t4 rfl rfl rfl hs4, hE1.size, New.up hf1 (Nat.le_refl _) (by have := hU2.size; simp at this ⊢; omega), New.up hf2 (by have := hE1.size; simp; omega) (by simp), Upd.fresh hs4 hE2 (fun k hk => by have : k = w1.heap.size := hk; rw [this]; exact hE1.size)⟩
      · go_wp2_with fail
        refine ⟨_, fun _ h => h, ⟨⟨_, ((Upd.refl _ _).alloc _)⟩, rfl⟩, ?_⟩
        repeat (refine tree_q rfl (fun K hK => ?_); go_simp; refine hK _ ?_; clear hK K)
        have t4 : Three (V.drew.alloc (.cells #[.slice none 0 0, .slice none 0 0, .slice none 0 0] 75)) V.heap.size 75 (.slice none 0 0) (.slice none 0 0) (.slice none 0 0) := Three.new _ _ _ _ _
        have hU0 : Ext V.drew (V.drew.alloc (.cells #[.slice none 0 0, .slice none 0 0, .slice none 0 0] 75)) := (Upd.refl _ _).alloc _
        refine tree_l rfl ?_
        go_wp2_with (refine (rsmall_fresh N _ hN.out).mono ?_; rintro e w1 ⟨B1, m1, e1, rfl, hf1, hV1, hU1⟩)
        refine ⟨_, fun _ h => h, ⟨⟨_, (hU0.trans hU1)⟩, rfl⟩, ?_⟩
        repeat (refine tree_q rfl (fun K hK => ?_); go_simp; refine hK _ ?_; clear hK K)
        refine tree_l rfl ?_
        go_wp2_with (refine (rsmall_fresh b _ hb.out).mono ?_; rintro e w2 ⟨B2, m2, e2, rfl, hf2, hV2, hU2⟩)
        refine ⟨_, fun _ h => h, ⟨⟨_, ((hU0.trans hU1).trans hU2)⟩, rfl⟩, ?_⟩
        repeat (refine tree_q rfl (fun K hK => ?_); go_simp; refine hK _ ?_; clear hK K)
        replace t4 := (t4.ext hU1).ext hU2
        have q0 := t4.cell0
        have q1 := t4.cell1
        have q2 := t4.cell2
        have f0 := t4.frozen 0
        have f1 := t4.frozen 1
        have f2 := t4.frozen 2
        refine tree_done ?_
        try simp only [List.drop_succ_cons, List.drop_zero]
        go_wp2_with fail
        go_meet
        have hE2 : Ext V w2 := ((hU0.trans hU1).trans hU2).undrew
        obtain ⟨s4, hs4⟩ := store3 t4 (.slice B1 m1 e1) (.slice B2 m2 e2) (.slice none 0 0)
        exact ⟨_, _, _, _, _, _, _, rfl, s4, (hV1.ext hU2).store3 t4 rfl rfl rfl hs4, hV2.store3 t4 rfl rfl rfl hs4, Nat.le_refl _, New.up hf1 (by simp) (by have := hU2.size; simp at this ⊢; omega), New.up hf2 (by have := hU1.size; simp at this ⊢; omega) (by simp), Upd.fresh hs4 hE2 (fun k hk => by have : k = V.heap.size := hk; rw [this]; exact Nat.le_refl _)⟩
    case rest =>
      obtain ⟨g5, B1, m1, e1, B2, m2, e2, rfl, t5, hR1, hR2, hg5, hnB1, hnB2, hEc⟩ := hcut
      replace hV1 := hV1.ext hEc
      replace hV2 := hV2.ext hEc
      replace t4 := t4.ext hEc
      replace c1 := c1.ext hEc
      replace r2 := r2.ext hEc
      replace r3 := r3.ext hEc
      replace hE := hE.trans hEc
      have hVB : V.heap.size ≤ wc.heap.size := hEc.size
      have h4lt := t4.lt
      have h5lt := t5.lt
      have k2 := c1.cell2
      clear k0 k1 hEc
      go_wp2_with fail
      clear k2
      obtain ⟨Bz, hBz⟩ : ∃ Bz, Bz = wc.heap.size := ⟨_, rfl⟩
      have hne45 : g5 ≠ g4 := fun e => by
        have a := t4
        have b := t5
        rw [e] at b
        unfold Three at a b
        rw [a] at b
        injection b with b
        injection b with _ b
        exact absurd b (by decide)
      have hWk0 : Wk wc Bz g4 g5 (.slice A1 l1 d1) (.slice A2 l2 d2) (.slice B1 m1 e1) (.slice B2 m2 e2) none none 0 0 0 0 [] [] (ps.take 0) (ps.take 0) := ⟨t4, t5, ⟨rfl, rfl⟩, ⟨rfl, rfl⟩, Own.nil, Own.nil, rfl, rfl, rfl, rfl, fun i hi => absurd hi (by omega), fun i hi => absurd hi (by omega)⟩
      go_loopw [25] (fun i wr => ∃ (j lD lF : Nat) (D : Option Addr) (cD : Nat) (F : Option Addr) (cF : Nat) (tb rb : List Tri), j ≤ n ∧ lD = j ∧ lF = j ∧ i = .int .i64 (j : Int) ∧ Wk wr Bz g4 g5 (.slice A1 l1 d1) (.slice A2 l2 d2) (.slice B1 m1 e1) (.slice B2 m2 e2) D F lD cD lF cF tb rb (ps.take j) (ps.take j) ∧ Upd (fun k => k = g4 ∨ k = g5) wc wr) (fun i _ => n - (intOf i).toNat)
      case atStart => exact ⟨0, 0, 0, none, 0, none, 0, [], [], Nat.zero_le _, rfl, rfl, rfl, hWk0, Upd.refl _ _⟩
      case round =>
        clear hWk0
        obtain ⟨j, lD, lF, D, cD, F, cF, tb, rb, hj, hlD, hlF, rfl, hK, hUZ⟩ := hrel
        have hEr : Ext w wr := Upd.fresh hUZ hE (fun k hk => by have := hE.size; rcases hk with h | h <;> omega)
        have hBr : Bz ≤ wr.heap.size := by rw [hBz]; exact hUZ.size
        have HK := hide hK
        have HlD := hide hlD
        have HlF := hide hlF
        by_cases hlt : j < n
        · have hltI : (j : Int) < (n : Int) := by omega
          obtain ⟨b1, o1, rfl, -, hcs⟩ := (HS.out.ext hEr).open_ (by rw [Hn.out]; omega)
          have hcj := hcs j (by rw [Hn.out]; exact hlt)
          obtain ⟨x, hx⟩ : ∃ x, x = gat ps j := ⟨_, rfl⟩
          have hx64 := hps.out j (by rw [Hn.out]; exact hlt)
          rw [← hx] at hcj hx64
          have Hx64 := hide hx64
          have hcj2 : wr.cell? ⟨b1, o1 + j, none⟩ = some (.int .u64 (x : Int)) := hcj
          have htk : ps.take (j + 1) = ps.take j ++ [x] := by rw [List.take_succ_eq_append_getElem (by rw [Hn.out]; exact hlt), hx, gat_lt (by rw [Hn.out]; exact hlt)]
          have Htk := hide htk
          have n4 : ¬ inA D g4 := own_three hK.oD hK.t4 (by decide)
          have k4 := fun z : Wd (Upd (inA D) wr.drew) => (z.ok.cell (p := ⟨g4, 2, none⟩) hK.t4.drew.lt n4).trans hK.t4.drew.cell2
          clear hcs hcj hx hx64 htk hK hlD hlF
          go_wp2_with fail
          refine wp_region_plan (Upd (inA D) _) 7 [(false,0), (false,1), (false,2), (true,3), (true,4), (true,5), (false,6)] (by kernel_rfl) (by kernel_rfl) (Upd.refl _ _) (fun hne => ?_)
          repeat (refine head_q rfl (fun K hK => ?_); have hK2 := hide hK; clear hK; go_simp; refine hK2.out _ ?_; clear hK2 K)
          refine head_l rfl ?_
          go_wp2_with fail
          refine (new_fresh x _ Hx64.out).mono ?_
          rintro e w1 ⟨A6, l6, c6, rfl, hfr, hV6, hU6⟩
          go_wp2_with fail
          refine ⟨_, fun _ h => h, ⟨⟨_, Upd.ofExt hU6⟩, rfl⟩, ?_⟩
          repeat (refine head_q rfl (fun K hK => ?_); have hK2 := hide hK; clear hK; go_simp; refine hK2.out _ ?_; clear hK2 K)
          refine head_l rfl ?_
          go_wp2_with fail
          refine ⟨_, fun _ h => h, ⟨⟨_, (Upd.ofExt hU6).alloc _⟩, rfl⟩, ?_⟩
          repeat (refine head_q rfl (fun K hK => ?_); have hK2 := hide hK; clear hK; go_simp; refine hK2.out _ ?_; clear hK2 K)
          have hEw1 : Ext wr (w1.alloc (.cells #[.slice A6 l6 c6] 37)) := (hU6.alloc _).undrew
          have hSx : Sl svt (w1.alloc (.cells #[.slice A6 l6 c6] 37)) (some ⟨w1.heap.size, 0, none⟩) [((A6, l6, c6) : Tri)] := Sl.new svt w1 37 [((A6, l6, c6) : Tri)]
          have hVx : NatV (w1.alloc (.cells #[.slice A6 l6 c6] 37)) (.agg #[.slice A6 l6 c6]) x := hV6.ext ((Upd.refl _ _).alloc _)
          have hfx : ∀ k, inA A6 k → wr.heap.size ≤ k ∧ k < (w1.alloc (.cells #[.slice A6 l6 c6] 37)).heap.size := fun k hk => ⟨(hfr k hk).1, by have := (hfr k hk).2; simp; omega⟩
          have hUa : Upd (inA D) wr.drew (w1.alloc (.cells #[.slice A6 l6 c6] 37)) := (Upd.ofExt hU6).alloc _
          refine head_l rfl ?_
          refine name_l2 (fun Wa hWa => ?_)
          rw [← hWa] at hEw1 hSx hVx hfx hUa
          have HWa := hide hWa
          clear hWa hV6 hU6 hfr
          refine wpList_apd svt svt_one Try.n_elN tb [((A6, l6, c6) : Tri)] (tb ++ [((A6, l6, c6) : Tri)]) (lD + 1) rfl (by rw [List.length_append, HK.out.ltb]; rfl) (by have := HlD.out; omega) (by have := HlD.out; unfold maxLen; omega) rfl rfl rfl HK.out.ltb (HK.out.oD.ext hEw1) rfl rfl hSx (Nat.le_trans hBr hEw1.size) ?_
          intro D2 f2 w3 hO3 hU3 hin3
          go_wp2_with fail
          refine ⟨_, fun _ h => h, ⟨⟨_, hUa.trans hU3⟩, rfl⟩, ?_⟩
          repeat (refine head_q rfl (fun K hK => ?_); have hK2 := hide hK; clear hK; go_simp; refine hK2.out _ ?_; clear hK2 K)
          have t4w := (HK.out.t4.ext hEw1).upd hU3 n4
          have q2 := t4w.cell2
          have z2 := t4w.frozen 2
          obtain ⟨hK2, hU2⟩ := HK.out.push4 hBr hEw1 hVx hfx hO3 hU3 hin3
          have HK2 := hide hK2
          have HU2 := hide hU2
          clear k4 hSx hVx hfx hUa hO3 hU3 hin3 hEw1 t4w hK2 hU2 HWa
          refine head_nil ?_
          try simp only [List.drop_succ_cons, List.drop_zero]
          go_wp2_with fail
          clear q2 z2
          refine name_w (fun S hS => ?_)
          have hK2 := HK2.out
          have hU2 := HU2.out
          rw [← hS] at hK2 hU2
          clear hS HK2 HU2
          have hU2Z : Upd (fun k => k = g4 ∨ k = g5) wc S := hUZ.trans' hU2 (fun k hk h => h.elim .inl (fun h => by omega))
          have hBs : Bz ≤ S.heap.size := Nat.le_trans hBr hU2.size
          have HK3 := hide hK2
          have n5 : ¬ inA F g5 := own_three hK2.oF hK2.t5 (by decide)
          have k5 := fun z : Wd (Upd (inA F) S.drew) => (z.ok.cell (p := ⟨g5, 2, none⟩) hK2.t5.drew.lt n5).trans hK2.t5.drew.cell2
          clear hK2 hU2
          refine wp_region_plan (Upd (inA F) _) 7 [(false,0), (false,1), (false,2), (true,3), (true,4), (true,5), (false,6)] (by kernel_rfl) (by kernel_rfl) (Upd.refl _ _) (fun hne => ?_)
          repeat (refine head_q rfl (fun K hK => ?_); have hK2 := hide hK; clear hK; go_simp; refine hK2.out _ ?_; clear hK2 K)
          refine head_l rfl ?_
          go_wp2_with fail
          refine (rsmall_fresh x _ Hx64.out).mono ?_
          rintro e w4 ⟨A7, l7, c7, rfl, hfr, hV7, hU7⟩
          go_wp2_with fail
          refine ⟨_, fun _ h => h, ⟨⟨_, Upd.ofExt hU7⟩, rfl⟩, ?_⟩
          repeat (refine head_q rfl (fun K hK => ?_); have hK2 := hide hK; clear hK; go_simp; refine hK2.out _ ?_; clear hK2 K)
          refine head_l rfl ?_
          go_wp2_with fail
          refine ⟨_, fun _ h => h, ⟨⟨_, (Upd.ofExt hU7).alloc _⟩, rfl⟩, ?_⟩
          repeat (refine head_q rfl (fun K hK => ?_); have hK2 := hide hK; clear hK; go_simp; refine hK2.out _ ?_; clear hK2 K)
          have hEw1 : Ext S (w4.alloc (.cells #[.slice A7 l7 c7] 32)) := (hU7.alloc _).undrew
          have hSx : Sl svt (w4.alloc (.cells #[.slice A7 l7 c7] 32)) (some ⟨w4.heap.size, 0, none⟩) [((A7, l7, c7) : Tri)] := Sl.new svt w4 32 [((A7, l7, c7) : Tri)]
          have hVx : RefV (w4.alloc (.cells #[.slice A7 l7 c7] 32)) (.slice A7 l7 c7) x := hV7.ext ((Upd.refl _ _).alloc _)
          have hfx : ∀ k, inA A7 k → S.heap.size ≤ k ∧ k < (w4.alloc (.cells #[.slice A7 l7 c7] 32)).heap.size := fun k hk => ⟨(hfr k hk).1, by have := (hfr k hk).2; simp; omega⟩
          have hUa : Upd (inA F) S.drew (w4.alloc (.cells #[.slice A7 l7 c7] 32)) := (Upd.ofExt hU7).alloc _
          refine head_l rfl ?_
          refine name_l2 (fun Wa hWa => ?_)
          rw [← hWa] at hEw1 hSx hVx hfx hUa
          have HWa := hide hWa
          clear hWa hV7 hU7 hfr
          refine wpList_apd svt svt_one Try.n_elR rb [((A7, l7, c7) : Tri)] (rb ++ [((A7, l7, c7) : Tri)]) (lF + 1) rfl (by rw [List.length_append, HK3.out.lrb]; rfl) (by have := HlF.out; omega) (by have := HlF.out; unfold maxLen; omega) rfl rfl rfl HK3.out.lrb (HK3.out.oF.ext hEw1) rfl rfl hSx (Nat.le_trans hBs hEw1.size) ?_
          intro F2 f3 w5 hO3 hU3 hin3
          go_wp2_with fail
          refine ⟨_, fun _ h => h, ⟨⟨_, hUa.trans hU3⟩, rfl⟩, ?_⟩
          repeat (refine head_q rfl (fun K hK => ?_); have hK2 := hide hK; clear hK; go_simp; refine hK2.out _ ?_; clear hK2 K)
          have t5w := (HK3.out.t5.ext hEw1).upd hU3 n5
          have q2 := t5w.cell2
          have z2 := t5w.frozen 2
          obtain ⟨hK4, hU4⟩ := HK3.out.push5 hBs hEw1 hVx hfx hO3 hU3 hin3
          have hU4Z : Upd (fun k => k = g4 ∨ k = g5) wc _ := hU2Z.trans' hU4 (fun k hk h => h.elim .inr (fun h => by omega))
          have HK4 := hide hK4
          have HU4 := hide hU4Z
          clear k5 hSx hVx hfx hUa hO3 hU3 hin3 hEw1 t5w hK4 hU4 hU4Z HWa hUZ hU2Z
          refine head_nil ?_
          try simp only [List.drop_succ_cons, List.drop_zero]
          go_wp2_with fail
          go_roundw
          case rel => exact ⟨j + 1, lD + 1, lF + 1, D2, f2, F2, f3, _, _, hlt, by have := HlD.out; omega, by have := HlF.out; omega, by go_num, by rw [Htk.out]; exact HK4.out, HU4.out⟩
          case measure => simp [intOf]; omega
        · obtain rfl : j = n := by omega
          have hltI : ¬ (j : Int) < (j : Int) := by omega
          have htk : ps.take j = ps := List.take_of_length_le (by rw [Hn.out]; omega)
          have hK := HK.out
          rw [htk] at hK
          subst hlD
          subst hlF
          have hw0 := hE.size
          have hWw : w.heap.size + 1 + 1 < Bz := by omega
          have hUr : Ext w wr := hEr
          have d2 := r2.upd hUZ (fun h => by rcases h with h | h <;> omega)
          have d3 := r3.upd hUZ (fun h => by rcases h with h | h <;> omega)
          have x10 := hV1.changew hUZ (fun b hb => by
            rcases hb with rfl | rfl
            · exact t4.zw rfl rfl rfl
            · exact t5.zw rfl rfl rfl)
          have x20 := hV2.changew hUZ (fun b hb => by
            rcases hb with rfl | rfl
            · exact t4.zw rfl rfl rfl
            · exact t5.zw rfl rfl rfl)
          have y10 := hR1.changew hUZ (fun b hb => by
            rcases hb with rfl | rfl
            · exact t4.zw rfl rfl rfl
            · exact t5.zw rfl rfl rfl)
          have y20 := hR2.changew hUZ (fun b hb => by
            rcases hb with rfl | rfl
            · exact t4.zw rfl rfl rfl
            · exact t5.zw rfl rfl rfl)
          have ne4 : g4 ≠ w.heap.size + 1 := by omega
          have ne5 : g5 ≠ w.heap.size + 1 := by omega
          have HKf := hide hK
          have H10 := hide x10
          have H20 := hide x20
          have J10 := hide y10
          have J20 := hide y20
          have D2 := hide d2
          have D3 := hide d3
          have p0 := fun z : Wd (Upd (only (w.heap.size + 1)) wr.drew) => (z.ok.cell (p := ⟨g4, 0, none⟩) hK.t4.drew.lt (fun h => ne4 h)).trans hK.t4.drew.cell0
          have p1 := fun z : Wd (Upd (only (w.heap.size + 1)) wr.drew) => (z.ok.cell (p := ⟨g4, 1, none⟩) hK.t4.drew.lt (fun h => ne4 h)).trans hK.t4.drew.cell1
          have p2 := fun z : Wd (Upd (only (w.heap.size + 1)) wr.drew) => (z.ok.cell (p := ⟨g4, 2, none⟩) hK.t4.drew.lt (fun h => ne4 h)).trans hK.t4.drew.cell2
          have q0 := fun z : Wd (Upd (only (w.heap.size + 1)) wr.drew) => (z.ok.cell (p := ⟨g5, 0, none⟩) hK.t5.drew.lt (fun h => ne5 h)).trans hK.t5.drew.cell0
          have q1 := fun z : Wd (Upd (only (w.heap.size + 1)) wr.drew) => (z.ok.cell (p := ⟨g5, 1, none⟩) hK.t5.drew.lt (fun h => ne5 h)).trans hK.t5.drew.cell1
          have q2 := fun z : Wd (Upd (only (w.heap.size + 1)) wr.drew) => (z.ok.cell (p := ⟨g5, 2, none⟩) hK.t5.drew.lt (fun h => ne5 h)).trans hK.t5.drew.cell2
          clear hK d2 d3 x10 x20 y10 y20 r2 r3 t4 t5 hV1 hV2 hR1 hR2 htk
          go_wp2_with fail
          refine wp_region_plan (Upd (only (w.heap.size + 1)) _) 3 [(false,0), (false,1), (true,2)] (by kernel_rfl) (by kernel_rfl) (Upd.refl _ _) (fun hne => ?_)
          repeat (refine head_q rfl (fun K hK => ?_); have hK2 := hide hK; clear hK; go_simp; refine hK2.out _ ?_; clear hK2 K)
          have a0 := D2.out.drew.cell0
          have a1 := D2.out.drew.cell1
          have a2 := D2.out.drew.cell2
          have f0 := D2.out.drew.frozen 0
          have f1 := D2.out.drew.frozen 1
          have f2 := D2.out.drew.frozen 2
          have a0' := D2.out.cell0
          have a1' := D2.out.cell1
          have a2' := D2.out.cell2
          have f0' := D2.out.frozen 0
          have f1' := D2.out.frozen 1
          have f2' := D2.out.frozen 2
          refine head_l rfl ?_
          go_wp2_with fail
          obtain ⟨X2, hX2, s2n, hs2n⟩ := store3e D2.out (.slice A1 l1 d1) (.slice A2 l2 d2) (.slice D lF cD)
          rw [← hX2]
          clear hX2
          refine ⟨_, fun _ h => h, ⟨⟨_, hs2n.redrew.drew⟩, rfl⟩, ?_⟩
          refine head_nil ?_
          try simp only [List.drop_succ_cons, List.drop_zero]
          clear a0 a1 a2 f0 f1 f2 a0' a1' a2' f0' f1' f2' p0 p1 p2 q0 q1 q2
          have s3 := D3.out.upd hs2n (fun h => by unfold only at h; omega)
          have a0 := s3.cell0
          have a1 := s3.cell1
          have a2 := s3.cell2
          have f0 := s3.frozen 0
          have f1 := s3.frozen 1
          have f2 := s3.frozen 2
          have S2 := hide s2n
          have S3 := hide s3
          have U2 := hide hs2n
          clear s3 s2n hs2n
          go_wp2_with fail
          clear a0 a1 a2 f0 f1 f2
          obtain ⟨X3, hX3, s5, hs5⟩ := store3e S3.out (.slice B1 m1 e1) (.slice B2 m2 e2) (.slice F lF cF)
          rw [← hX3]
          clear hX3
          have t2f := S2.out.upd hs5 (fun h => by unfold only at h; omega)
          have r0 := t2f.drew.cell0
          have r1 := t2f.drew.cell1
          have r2 := t2f.drew.cell2
          have v0 := s5.drew.cell0
          have v1 := s5.drew.cell1
          have v2 := s5.drew.cell2
          have hK := HKf.out
          have htk2 : ps.take lF = ps := List.take_of_length_le (by rw [Hn.out]; exact Nat.le_refl _)
          rw [htk2] at hK
          have hcD := hK.oD.cap
          have hcF := hK.oF.cap
          rw [List.length_map, hK.ltb] at hcD
          rw [List.length_map, hK.lrb] at hcF
          have nd2 : ∀ k, inA D k → ¬ only (w.heap.size + 1) k := fun k hk h => by have a := (hK.oD.in_ hk).1; have : k = w.heap.size + 1 := h; omega
          have nd3 : ∀ k, inA D k → ¬ only (w.heap.size + 1 + 1) k := fun k hk h => by have a := (hK.oD.in_ hk).1; have : k = w.heap.size + 1 + 1 := h; omega
          have nf2 : ∀ k, inA F k → ¬ only (w.heap.size + 1) k := fun k hk h => by have a := (hK.oF.in_ hk).1; have : k = w.heap.size + 1 := h; omega
          have nf3 : ∀ k, inA F k → ¬ only (w.heap.size + 1 + 1) k := fun k hk h => by have a := (hK.oF.in_ hk).1; have : k = w.heap.size + 1 + 1 := h; omega
          have up : ∀ v x, NatV wr v x → NatV X3 v x := fun v x h => (h.store3 D2.out rfl rfl rfl U2.out).store3 S3.out rfl rfl rfl hs5
          have ur : ∀ v x, RefV wr v x → RefV X3 v x := fun v x h => (h.store3 D2.out rfl rfl rfl U2.out).store3 S3.out rfl rfl rfl hs5
          have hLN : ∃ ts : List Tri, ts.length = ps.length ∧ Sl svt X3 D ts ∧ ∀ i, i < ps.length → NatV X3 (.agg #[svt (gat ts i)]) (gat ps i) ∧ ∀ k, inA (gat ts i).1 k → w.heap.size ≤ k ∧ k < wr.heap.size := ⟨tb, hK.ltb.trans hK.lps.symm, ((hK.oD.upd U2.out nd2).upd hs5 nd3).sl, fun i hi => ⟨up _ _ (hK.nt i (by rw [← hK.lps]; exact hi)).1, fun k hk => by have := ((hK.nt i (by rw [← hK.lps]; exact hi)).2 k hk).1; omega⟩⟩
          have hLR : ∃ ts : List Tri, ts.length = ps.length ∧ Sl svt X3 F ts ∧ ∀ i, i < ps.length → RefV X3 (svt (gat ts i)) (gat ps i) ∧ ∀ k, inA (gat ts i).1 k → w.heap.size ≤ k ∧ k < wr.heap.size := ⟨rb, hK.lrb.trans hK.lqs.symm, ((hK.oF.upd U2.out nf2).upd hs5 nf3).sl, fun i hi => ⟨ur _ _ (hK.rt i (by rw [← hK.lqs]; exact hi)).1, fun k hk => by have := ((hK.rt i (by rw [← hK.lqs]; exact hi)).2 k hk).1; omega⟩⟩
          have hEx : Ext w X3 := Upd.fresh hs5 (Upd.fresh U2.out hEr (fun k hk => by have : k = w.heap.size + 1 := hk; omega)) (fun k hk => by have : k = w.heap.size + 1 + 1 := hk; omega)
          have hd : Ext X3 X3.drew := (Upd.refl _ _).drew
          have szx : wr.heap.size ≤ X3.heap.size := Nat.le_trans U2.out.size hs5.size
          have szB : Bz ≤ wr.heap.size := by rw [hBz]; exact hUZ.size
          have rk : ∀ k, w.heap.size ≤ k ∧ k < wr.heap.size → w.heap.size ≤ k ∧ k < X3.drew.heap.size := fun k hk => ⟨hk.1, Nat.lt_of_lt_of_le hk.2 szx⟩
          have rA1 : ∀ k, inA A1 k → w.heap.size ≤ k ∧ k < wr.heap.size := fun k hk => by have := hnA1 k hk; omega
          have rA2 : ∀ k, inA A2 k → w.heap.size ≤ k ∧ k < wr.heap.size := fun k hk => by have := hnA2 k hk; omega
          have rB1 : ∀ k, inA B1 k → w.heap.size ≤ k ∧ k < wr.heap.size := fun k hk => by have := hnB1 k hk; omega
          have rB2 : ∀ k, inA B2 k → w.heap.size ≤ k ∧ k < wr.heap.size := fun k hk => by have := hnB2 k hk; omega
          have rD : ∀ k, inA D k → w.heap.size ≤ k ∧ k < wr.heap.size := fun k hk => by have := hK.oD.in_ hk; omega
          have rF : ∀ k, inA F k → w.heap.size ≤ k ∧ k < wr.heap.size := fun k hk => by have := hK.oF.in_ hk; omega
          have hSt : StepR X3 (.agg #[.slice A1 l1 d1, .slice A2 l2 d2, .slice D lF cD]) N b ps (fun k => w.heap.size ≤ k ∧ k < wr.heap.size) := ⟨_, _, _, _, _, _, _, _, _, rfl, up _ _ H10.out, up _ _ H20.out, hLN, hK.lps, hcD.1, hcD.2, rA1, rA2, rD⟩
          have hRt : RStepR X3 (.agg #[.slice B1 m1 e1, .slice B2 m2 e2, .slice F lF cF]) N b ps (fun k => w.heap.size ≤ k ∧ k < wr.heap.size) := ⟨_, _, _, _, _, _, _, _, _, rfl, ur _ _ J10.out, ur _ _ J20.out, hLR, hK.lqs, hcF.1, hcF.2, rB1, rB2, rF⟩
          have hSt2 := hSt.apart hd (fun _ _ h => h) rk
          have hRt2 := hRt.apart hd (fun _ _ h => h) rk
          have hEx2 := hEx.trans hd
          clear hSt hRt hEx hLN hLR up ur hK HKf H10 H20 J10 J20 S2 S3 U2 D2 D3 t2f s5 hs5 HK hd rk szx
          generalize X3.drew = X4 at *
          refine bodyPost_ret (v := .tuple #[.agg #[.slice A1 l1 d1, .slice A2 l2 d2, .slice D lF cD], .agg #[.slice B1 m1 e1, .slice B2 m2 e2, .slice F lF cF]]) ?_ rfl ⟨_, _, rfl, hSt2, hRt2, hEx2⟩
          simp [results, Try.results44, go_sem, r0, r1, r2, v0, v1, v2]
end Go.Proofs.Ytpffdpieciaooaa
