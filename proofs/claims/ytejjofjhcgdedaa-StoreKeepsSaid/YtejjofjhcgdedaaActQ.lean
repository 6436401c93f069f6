/- Acts that came in. -/
import Derived.Test.YtejjofjhcgdedaaScaQ
import Derived.Test.YtejjofjhcgdedaaShas
import Derived.Test.YtejjofjhcgdedaaIn
import Derived.Deep.Slices
import Derived.Deep.Strs
namespace Go.Proofs.Ytejjofjhcgdedaa
set_option linter.unusedSimpArgs false
set_option linter.unusedVariables false
open Go.RowKit
open Sha
open Go.Deep Go.ChangeShapes Go.WideShapes
section
variable {H : Type} {enc : TypeId × Value → H} {P : Program} {w : World} {base : Nat} {held : Bool}
/-- An act. -/
structure Ac where
  kind : Int
  N : Int
  X : B8
  A : Option Addr
  l : Nat
  c : Nat
  ss : List Sca
instance : Inhabited Ac := ⟨⟨0, 0, 0, none, 0, 0, []⟩⟩
def Ac.cs (d : Ac) : List Value := [.int .i64 d.kind, .int .i64 d.N, by8 d.X, .slice d.A d.l d.c]
structure AcOk (w : World) (d : Ac) : Prop where
  wk : (Lit.int .i64 d.kind).wf = true
  wn : (Lit.int .i64 d.N).wf = true
  scars : ScaL w d.A d.ss
  len : d.ss.length = d.l
  cap : d.l ≤ d.c
  max : d.c ≤ maxLen
theorem act_in {e i u8 t f q : TypeId} {fs gs : Array Field} {fuel : Nat} {vs : List Value} {x : DataW H × List MemPlace} (he : P.underlying e = some (.struct gs)) (ht : P.underlying t = some (.slice f)) (hf0 : P.underlying f = some (.struct fs)) (hi : P.underlying i = some (.int .i64)) (hq : P.underlying q = some (.slice u8)) (hu : P.underlying u8 = some (.int .u8))
    (k0 : ∀ k, k < 2 → ∃ f, gs[k]? = some f ∧ f.type = i ∧ f.offset = k) (k3 : ∃ f, gs[2]? = some f ∧ f.type = u8 ∧ f.offset = 2) (k4 : ∃ f, gs[3]? = some f ∧ f.type = t ∧ f.offset = 3)
    (g0 : ∃ f, fs[0]? = some f ∧ f.type = i ∧ f.offset = 0) (g1 : ∃ f, fs[1]? = some f ∧ f.type = q ∧ f.offset = 1) (ce : P.cellsOf e = 4) (cf : P.cellsOf f = 2) (ci : P.cellsOf i = 1) (cq : P.cellsOf q = 1) (cu : P.cellsOf u8 = 1) (ct : P.cellsOf t = 1)
    (h : DataW.trod enc P w base (fun _ => true) held fuel e vs = some x) : ∃ d : Ac, vs = d.cs ∧ AcOk w d := by
  obtain ⟨xs, n, -, -, hl, hlen, hf⟩ := DataW.trod_struct he h
  rw [ce] at hl
  obtain ⟨y0, t0⟩ := fld hlen hf (k0 0 (by omega)) ci
  obtain ⟨y1, t1⟩ := fld hlen hf (k0 1 (by omega)) ci
  obtain ⟨y3, t3⟩ := fld hlen hf k3 cu
  obtain ⟨y4, t4⟩ := fld hlen hf k4 ct
  match vs, hl with
  | [v0, v1, v3, v4], _ =>
    obtain ⟨z0, e0, -, w0⟩ := DataW.trod_int hi t0
    obtain ⟨z1, e1, -, w1⟩ := DataW.trod_int hi t1
    obtain ⟨z3, e3, -, w3⟩ := DataW.trod_int hu t3
    simp at e0 e1 e3
    have key : ∃ A n c, v4 = .slice A n c := by
      rcases DataW.trod_slice ht t4 with ⟨hcs, _⟩ | ⟨y, l, c, elems, rest, n, -, hcs, -⟩
      · simp at hcs; exact ⟨none, 0, 0, hcs⟩
      · simp at hcs; exact ⟨some y, l, c, hcs⟩
    obtain ⟨A, m, c, rfl⟩ := key
    obtain ⟨ss, p1, p2, p3, p4⟩ := scas_in ht hf0 hi hq hu g0 g1 cf ci cq cu (by simpa [Value.cells] using t4)
    obtain ⟨X, hX⟩ : ∃ X : B8, v3 = by8 X := by
      obtain ⟨X, hX⟩ := u8_in w3
      exact ⟨X, by rw [e3, hX]; rfl⟩
    exact ⟨⟨z0, z1, X, A, m, c, ss⟩, by rw [e0, e1, hX]; rfl, w0, w1, p4, p1, p2, p3⟩
def AcL (w : World) (A : Option Addr) (ds : List Ac) : Prop := ∀ i, i < ds.length → ∃ b o, A = some ⟨b, o, none⟩ ∧ (∀ j, j < 4 → w.cell? ⟨b, o + i * 4 + j, none⟩ = (gat ds i).cs[j]?) ∧ AcOk w (gat ds i)
def ActsIn (w : World) (a : Option Addr) (len cap : Nat) : Prop := ∃ ds : List Ac, ds.length = len ∧ len ≤ cap ∧ cap ≤ maxLen ∧ AcL w a ds
theorem acts_in {td e i u8 t f q : TypeId} {fs gs : Array Field} {fuel : Nat} {a : Option Addr} {len cap : Nat} {x : DataW H × List MemPlace} (htd : P.underlying td = some (.slice e)) (he : P.underlying e = some (.struct gs)) (ht : P.underlying t = some (.slice f)) (hf0 : P.underlying f = some (.struct fs)) (hi : P.underlying i = some (.int .i64)) (hq : P.underlying q = some (.slice u8)) (hu : P.underlying u8 = some (.int .u8))
    (k0 : ∀ k, k < 2 → ∃ f, gs[k]? = some f ∧ f.type = i ∧ f.offset = k) (k3 : ∃ f, gs[2]? = some f ∧ f.type = u8 ∧ f.offset = 2) (k4 : ∃ f, gs[3]? = some f ∧ f.type = t ∧ f.offset = 3)
    (g0 : ∃ f, fs[0]? = some f ∧ f.type = i ∧ f.offset = 0) (g1 : ∃ f, fs[1]? = some f ∧ f.type = q ∧ f.offset = 1) (ce : P.cellsOf e = 4) (cf : P.cellsOf f = 2) (ci : P.cellsOf i = 1) (cq : P.cellsOf q = 1) (cu : P.cellsOf u8 = 1) (ct : P.cellsOf t = 1)
    (h : DataW.trod enc P w base (fun _ => true) held fuel td (Value.slice a len cap).cells.toList = some x) : ActsIn w a len cap := by
  rcases open_slice htd h with ⟨hcs, _⟩ | ⟨y, l, c, m, n, D, Pl, hcs, _, hl, hm, hmm, _, hx⟩
  · simp [Value.cells] at hcs
    obtain ⟨rfl, rfl, rfl⟩ := hcs
    exact ⟨[], rfl, Nat.le_refl _, Nat.zero_le _, fun i hi => absurd hi (by simp)⟩
  · simp [Value.cells] at hcs
    obtain ⟨rfl, rfl, rfl⟩ := hcs
    rw [if_pos rfl] at hmm
    have each : ∀ r, ∃ d : Ac, r < len → (∀ j, j < 4 → w.cell? ((y.add (r * 4)).add j) = d.cs[j]?) ∧ AcOk w d := fun r => by
      by_cases hr : r < len
      · obtain ⟨vs, h1, h2⟩ := hx r (by omega)
        rw [ce] at h1
        obtain ⟨-, -, hcell⟩ := World.cells?_some h1
        obtain ⟨d, rfl, hok⟩ := act_in he ht hf0 hi hq hu k0 k3 k4 g0 g1 ce cf ci cq cu ct h2
        exact ⟨d, fun _ => ⟨hcell, hok⟩⟩
      · exact ⟨default, fun h => absurd h hr⟩
    obtain ⟨C, hC⟩ := Classical.axiomOfChoice each
    have hg : ∀ i, i < len → gat ((List.range len).map C) i = C i := fun i hi => by simp [gat, hi]
    refine ⟨(List.range len).map C, by simp, hl, hm, fun i hi => ?_⟩
    simp only [List.length_map, List.length_range] at hi
    have hsp : y.spot = none := spot_of (x := y) (v := .int .i64 (C 0).kind) (by
      have h0 := (hC 0 (by omega)).1 0 (by omega)
      simpa [Addr.add, Ac.cs] using h0)
    obtain ⟨b, o, s⟩ := y
    simp only at hsp
    subst hsp
    obtain ⟨h3, hok⟩ := hC i hi
    refine ⟨b, o, rfl, fun j hj => ?_, ?_⟩
    · have := h3 j hj; rw [Addr.add_lit, Addr.add_lit] at this; rw [hg i hi]; exact this
    · rw [hg i hi]; exact hok
end
end Go.Proofs.Ytejjofjhcgdedaa
