/- Scars: where they lie, and what they say. -/
import Derived.Test.YtejjofjhcgdedaaSlbP
namespace Go.Proofs.Ytejjofjhcgdedaa
set_option linter.unusedSimpArgs false
set_option linter.unusedVariables false
open Go.RowKit
/-- A scar: its sector, where its bytes lie, and what they are. -/
structure Sca where
  n : Int
  A : Option Addr
  l : Nat
  c : Nat
  bs : List B8
instance : Inhabited Sca := ⟨⟨0, none, 0, 0, []⟩⟩
structure ScaOk (w : World) (s : Sca) : Prop where
  row : Sl by8 w s.A s.bs
  len : s.bs.length = s.l
  cap : s.l ≤ s.c
  max : s.c ≤ maxLen
  wf : (Lit.int .i64 s.n).wf = true
theorem ScaOk.upd {w w' : World} {T : Nat → Prop} {s : Sca} (h : ScaOk w s) (hu : Upd T w w') (hT : ∀ k, inA s.A k → ¬ T k) : ScaOk w' s := ⟨h.row.upd hu (fun b o e => hT _ (by rw [e]; simp [inA])), h.len, h.cap, h.max, h.wf⟩
theorem ScaOk.ext {w w' : World} {s : Sca} (h : ScaOk w s) (hu : Ext w w') : ScaOk w' s := h.upd hu (fun _ _ h => h)
/-- A slice of scars. -/
def ScaL (w : World) (A : Option Addr) (ss : List Sca) : Prop := ∀ i, i < ss.length → ∃ b o, A = some ⟨b, o, none⟩ ∧ w.cell? ⟨b, o + i * 2, none⟩ = some (.int .i64 (gat ss i).n) ∧ w.cell? ⟨b, o + i * 2 + 1, none⟩ = some (.slice (gat ss i).A (gat ss i).l (gat ss i).c) ∧ ScaOk w (gat ss i)
theorem ScaL.upd {w w' : World} {T : Nat → Prop} {A : Option Addr} {ss : List Sca} (h : ScaL w A ss) (hu : Upd T w w') (hA : ∀ k, inA A k → ¬ T k) (hT : ∀ i, i < ss.length → ∀ k, inA (gat ss i).A k → ¬ T k) : ScaL w' A ss := fun i hi => by
  obtain ⟨b, o, e, h1, h2, h3⟩ := h i hi
  have hb : ¬ T b := hA b (by rw [e]; simp [inA])
  exact ⟨b, o, e, (hu.cell (World.block_lt_of_cell? w _ h1) hb).trans h1, (hu.cell (World.block_lt_of_cell? w _ h2) hb).trans h2, h3.upd hu (hT i hi)⟩
theorem ScaL.ext {w w' : World} {A : Option Addr} {ss : List Sca} (h : ScaL w A ss) (hu : Ext w w') : ScaL w' A ss := h.upd hu (fun _ _ h => h) (fun _ _ _ _ h => h)
def scaV (ss : List Sca) : List (Int × List B8) := ss.map fun s => (s.n, s.bs)
end Go.Proofs.Ytejjofjhcgdedaa
