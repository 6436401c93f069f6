/- What comes in as rows of bytes, and as rows of truths. -/
import Derived.Test.YtejjofjhcgdedaaShas
import Derived.Test.YtejjofjhcgdedaaBase
import Derived.Deep.Matrix
import Derived.Deep.Grids
namespace Go.Proofs.Ytejjofjhcgdedaa
set_option linter.unusedSimpArgs false
set_option linter.unusedVariables false
open Go.RowKit
open Sha
open Go.Deep

theorem addr_plain {w : World} {a : Addr} {v : Value} (h : w.cell? a = some v) (h2 : ∃ i v', w.cell? (a.add (i + 1)) = some v' ) : True := trivial
/-- Rows of bytes that came in. -/
def RowsIn (w : World) (a : Option Addr) (len cap : Nat) : Prop := ∃ ps : List Pt, ps.length = len ∧ len ≤ cap ∧ cap ≤ maxLen ∧ Pts w a ps
def BoolsIn (w : World) (a : Option Addr) (len cap : Nat) : Prop := ∃ bs : List Bool, bs.length = len ∧ len ≤ cap ∧ cap ≤ maxLen ∧ Sl Value.bool w a bs

theorem spot_none {w : World} {x : Addr} {v : Value} (h : w.cell? x = some v) (hv : ∀ s t u, x = ⟨s, t, some u⟩ → False) : x.spot = none := by
  obtain ⟨b, o, s⟩ := x
  cases s with
  | none => rfl
  | some s => exact (hv _ _ _ rfl).elim

section
variable {H : Type} {enc : TypeId × Value → H} {P : Program} {w : World} {base : Nat} {held : Bool}
theorem bools_in {t e : TypeId} {fuel : Nat} {a : Option Addr} {len cap : Nat} {x : DataW H × List MemPlace} (ht : P.underlying t = some (.slice e)) (he : P.underlying e = some .bool) (hc : P.cellsOf e = 1)
    (h : DataW.trod enc P w base (fun _ => true) held fuel t (Value.slice a len cap).cells.toList = some x) : BoolsIn w a len cap := by
  rcases open_bools ht he hc h with ⟨hcs, _⟩ | ⟨y, l, c, B, hcs, _, hl, hm, _, hcell⟩
  · simp [Value.cells] at hcs
    obtain ⟨rfl, rfl, rfl⟩ := hcs
    exact ⟨[], rfl, Nat.le_refl _, Nat.zero_le _, Sl.nil⟩
  · simp [Value.cells] at hcs
    obtain ⟨rfl, rfl, rfl⟩ := hcs
    refine ⟨(List.range len).map B, by simp, hl, hm, fun i hi => ?_⟩
    simp only [List.length_map, List.length_range] at hi
    have hx : y.spot = none := by
      have h0 := hcell 0 (by omega)
      cases hs : y.spot with
      | none => rfl
      | some s =>
        simp only [Addr.add, if_true] at h0
        unfold World.cell? at h0
        rw [hs] at h0
        split at h0 <;> simp at h0
    obtain ⟨b, o, s⟩ := y
    simp only at hx
    subst hx
    refine ⟨b, o, rfl, ?_⟩
    have h0 := hcell i (by omega)
    rw [Addr.add_lit] at h0
    rw [h0]
    simp [gat, hi]
theorem rows_in {t e q : TypeId} {fuel : Nat} {a : Option Addr} {len cap : Nat} {x : DataW H × List MemPlace} (ht : P.underlying t = some (.slice e)) (he : P.underlying e = some (.slice q)) (hq : P.underlying q = some (.int .u8)) (ce : P.cellsOf e = 1) (cq : P.cellsOf q = 1)
    (h : DataW.trod enc P w base (fun _ => true) held fuel t (Value.slice a len cap).cells.toList = some x) : RowsIn w a len cap := by
  rcases open_int_rows ht he hq ce cq h with ⟨hcs, _⟩ | ⟨y, l, c, A, L, C, Z, hcs, _, hl, hm, _, hcell⟩
  · simp [Value.cells] at hcs
    obtain ⟨rfl, rfl, rfl⟩ := hcs
    exact ⟨[], rfl, Nat.le_refl _, Nat.zero_le _, Sl.nil, fun i hi => absurd hi (by simp)⟩
  · simp [Value.cells] at hcs
    obtain ⟨rfl, rfl, rfl⟩ := hcs
    have each : ∀ r, ∃ bs : List (BitVec 8), r < len → Pt.ok w ⟨A r, L r, C r, bs⟩ := fun r => by
      by_cases hr : r < len
      · obtain ⟨h1, h2, h3, h4, h5, h6, h7⟩ := hcell r (by omega)
        have key : (A r = none ∧ L r = 0 ∧ C r = 0 ∧ Z r = []) ∨ ∃ x, A r = some x ∧ L r ≤ C r ∧ C r ≤ maxLen ∧ (Z r).length = C r ∧ (∀ i, i < (Z r).length → w.cell? (x.add i) = some (.int .u8 ((Z r).getD i 0))) ∧ ∀ n ∈ Z r, (Lit.int .u8 n).wf = true := by
          cases hA : A r with
          | none =>
            have hc0 := h6 hA
            exact .inl ⟨rfl, by omega, hc0, List.eq_nil_of_length_eq_zero (by omega)⟩
          | some x => exact .inr ⟨x, rfl, h2, h3, h4, fun i hi => (h7 x hA).2 i (by omega), h5⟩
        obtain ⟨bs, g1, g2, g3, g4⟩ := bytes_in key
        exact ⟨bs, fun _ => ⟨g4, g1, g2, g3⟩⟩
      · exact ⟨[], fun h => absurd h hr⟩
    obtain ⟨B, hB⟩ := Classical.axiomOfChoice each
    have hg : ∀ i, i < len → gat ((List.range len).map fun r => (⟨A r, L r, C r, B r⟩ : Pt)) i = ⟨A i, L i, C i, B i⟩ := fun i hi => by simp [gat, hi]
    refine ⟨(List.range len).map fun r => ⟨A r, L r, C r, B r⟩, by simp, hl, hm, fun i hi => ?_, fun i hi => ?_⟩
    · simp only [List.length_map, List.length_range] at hi
      have hx : y.spot = none := by
        have h0 := (hcell 0 (by omega)).1
        cases hs : y.spot with
        | none => rfl
        | some s =>
          simp only [Addr.add, if_true] at h0
          unfold World.cell? at h0
          rw [hs] at h0
          split at h0 <;> simp at h0
      obtain ⟨b, o, s⟩ := y
      simp only at hx
      subst hx
      refine ⟨b, o, rfl, ?_⟩
      have h0 := (hcell i (by omega)).1
      rw [Addr.add_lit] at h0
      rw [h0, hg i hi]
      rfl
    · simp only [List.length_map, List.length_range] at hi
      rw [hg i hi]
      exact hB i hi
end
end Go.Proofs.Ytejjofjhcgdedaa
