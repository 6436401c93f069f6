/- The sum of parts, walked. -/
import Derived.Test.YtjdodhooojjldaaShaT
namespace Go.Proofs.Ytjdodhooojjldaa
set_option linter.unusedSimpArgs false
set_option linter.unusedVariables false
open Go.RowKit
open Sha
attribute [local go_sem] steady steadyUpon Cls same_cell by8 by32 by64

/-- A part: where it lies, and its bytes. -/
structure Pt where
  A : Option Addr
  n : Nat
  c : Nat
  bs : List (BitVec 8)
instance : Inhabited Pt := ⟨⟨none, 0, 0, []⟩⟩
def Pt.val (p : Pt) : Value := .slice p.A p.n p.c
def Pt.ok (w : World) (p : Pt) : Prop := Sl by8 w p.A p.bs ∧ p.bs.length = p.n ∧ p.n ≤ p.c ∧ p.c ≤ maxLen
/-- A slice of slices of bytes. -/
def Pts (w : World) (A : Option Addr) (ps : List Pt) : Prop := Sl Pt.val w A ps ∧ ∀ i, i < ps.length → (gat ps i).ok w
def flat (ps : List Pt) : List (BitVec 8) := ps.flatMap Pt.bs
theorem Pts.ext {w w' : World} {A : Option Addr} {ps : List Pt} (h : Pts w A ps) (hu : Ext w w') : Pts w' A ps := ⟨h.1.ext hu, fun i hi => ⟨(h.2 i hi).1.ext hu, (h.2 i hi).2⟩⟩
theorem flat_take {ps : List Pt} {k : Nat} (h : k < ps.length) : flat (ps.take k) ++ (gat ps k).bs = flat (ps.take (k + 1)) := by
  unfold flat
  rw [List.take_succ_eq_append_getElem h, List.flatMap_append, gat_lt h]
  simp
theorem flat_le (ps : List Pt) (k : Nat) : (flat (ps.take k)).length ≤ (flat ps).length := by
  have : flat ps = flat (ps.take k) ++ flat (ps.drop k) := by unfold flat; rw [← List.flatMap_append, List.take_append_drop]
  rw [this, List.length_append]; omega

end Go.Proofs.Ytjdodhooojjldaa
