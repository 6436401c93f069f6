/- Lists of numbers; what is known, walked. -/
import Derived.Test.YtjdodhooojjldaaCertA
namespace Go.Proofs.Ytjdodhooojjldaa
set_option linter.unusedSimpArgs false
set_option linter.unusedVariables false
open Go.RowKit
open Nt
attribute [local go_sem] steady steadyUpon Cls same_cell anyW
attribute [local irreducible] wpHead wpTree wpHeadR

abbrev Tri := Option Addr × Nat × Nat
def svt (t : Tri) : Value := .slice t.1 t.2.1 t.2.2
/-- A slice of numbers. -/
def NatL (w : World) (A : Option Addr) (ns : List Nat) : Prop := ∃ ts : List Tri, ts.length = ns.length ∧ Sl svt w A ts ∧ ∀ i, i < ns.length → NatV w (.agg #[svt (gat ts i)]) (gat ns i)
theorem NatL.ext {w w' : World} {A : Option Addr} {ns : List Nat} (h : NatL w A ns) (hu : Ext w w') : NatL w' A ns := by
  obtain ⟨ts, h1, h2, h3⟩ := h
  exact ⟨ts, h1, h2.ext hu, fun i hi => (h3 i hi).ext hu⟩
theorem NatL.nil {w : World} {A : Option Addr} : NatL w A [] := ⟨[], rfl, Sl.nil, fun i hi => absurd hi (by simp)⟩
theorem NatL.take {w : World} {A : Option Addr} {ns : List Nat} (h : NatL w A ns) (k : Nat) : NatL w A (ns.take k) := by
  obtain ⟨ts, h1, h2, h3⟩ := h
  refine ⟨ts.take k, by rw [List.length_take, List.length_take, h1], h2.take k, fun i hi => ?_⟩
  have hk : i < k ∧ i < ns.length := by rw [List.length_take] at hi; omega
  rw [gat_take hk.1, gat_take hk.1]
  exact h3 i hk.2
theorem NatL.at {w : World} {A : Option Addr} {ns : List Nat} (h : NatL w A ns) {i : Nat} (hi : i < ns.length) : ∃ b o B l c, A = some ⟨b, o, none⟩ ∧ w.cell? ⟨b, o + i, none⟩ = some (.slice B l c) ∧ NatV w (.agg #[.slice B l c]) (gat ns i) := by
  obtain ⟨ts, h1, h2, h3⟩ := h
  obtain ⟨b, o, rfl, -, hc⟩ := h2.open_ (by omega)
  exact ⟨b, o, _, _, _, rfl, hc i (by omega), h3 i hi⟩
/-- all of a list fit -/
def FitL (k : Nat) (ns : List Nat) : Prop := ∀ i, i < ns.length → Fit k (gat ns i)
def hasB (ns : List Nat) (n : Nat) : Bool := ns.any fun x => x == n
def knownB (ns : List Nat) (n : Nat) : Bool := hasB ns n || smallB n
theorem hasB_take {ns : List Nat} {n k : Nat} (h : k < ns.length) : hasB (ns.take (k + 1)) n = (hasB (ns.take k) n || gat ns k == n) := by
  unfold hasB
  rw [List.take_succ_eq_append_getElem h, List.any_append, gat_lt h]
  simp
theorem hasB_yes {ns : List Nat} {n k : Nat} (h : k < ns.length) (e : gat ns k = n) : hasB ns n = true := by
  unfold hasB
  rw [List.any_eq_true]
  exact ⟨ns[k], List.getElem_mem h, by rw [← e, gat_lt h]; exact beq_self_eq_true _⟩
theorem cmpI_zero {a b : Nat} : cmpI a b = 0 ↔ a = b := by
  unfold cmpI
  split
  · constructor
    · intro h; omega
    · intro h; omega
  · split <;> simp [*]
end Go.Proofs.Ytjdodhooojjldaa
