/- Scars and deeds that came in. -/
import Derived.Test.YtejjofjhcgdedaaSca
import Derived.Test.YtejjofjhcgdedaaShas
import Derived.Test.YtejjofjhcgdedaaIn
import Derived.Deep.Slices
import Derived.Deep.Strs
namespace Go.Proofs.Ytejjofjhcgdedaa
set_option linter.unusedSimpArgs false
set_option linter.unusedVariables false
open Go.RowKit
open Sha
open Go.Deep Go.ChangeShapes Go.WideShapes
theorem spot_of {w : World} {x : Addr} {v : Value} (h : w.cell? x = some v) : x.spot = none := by
  cases hs : x.spot with
  | none => rfl
  | some s =>
    unfold World.cell? at h
    rw [hs] at h
    split at h <;> simp at h
section
variable {H : Type} {enc : TypeId × Value → H} {P : Program} {w : World} {base : Nat} {held : Bool}
theorem fld {fs : Array Field} {cs : List Value} {xs : List (DataW H × List MemPlace)} {n i o c : Nat} {ty : TypeId} (hlen : xs.length = fs.size) (hf : ∀ (i : Nat) (f : Field), fs[i]? = some f → DataW.trod enc P w base (fun _ => true) held n f.type ((cs.drop f.offset).take (P.cellsOf f.type)) = xs[i]?)
    (g : ∃ f, fs[i]? = some f ∧ f.type = ty ∧ f.offset = o) (hc : P.cellsOf ty = c) : ∃ y, DataW.trod enc P w base (fun _ => true) held n ty ((cs.drop o).take c) = some y := by
  obtain ⟨f, h1, h2, h3⟩ := g
  have := hf i f h1
  rw [h2, h3, hc] at this
  have hi : i < xs.length := by rw [hlen]; exact (Array.getElem?_eq_some_iff.1 h1).1
  exact ⟨xs[i], by rw [this]; exact List.getElem?_eq_getElem hi⟩
theorem bytes_v {q u : TypeId} {fuel : Nat} {v : Value} {x : DataW H × List MemPlace} (hq : P.underlying q = some (.slice u)) (hu : P.underlying u = some (.int .u8)) (cu : P.cellsOf u = 1)
    (h : DataW.trod enc P w base (fun _ => true) held fuel q [v] = some x) : ∃ A n c, ∃ bs : List (BitVec 8), v = .slice A n c ∧ bs.length = n ∧ n ≤ c ∧ c ≤ maxLen ∧ Sl by8 w A bs := by
  have key : ∃ A n c zs, v = .slice A n c ∧ ((A = none ∧ n = 0 ∧ c = 0 ∧ zs = []) ∨ ∃ x, A = some x ∧ n ≤ c ∧ c ≤ maxLen ∧ zs.length = c ∧ (∀ i, i < zs.length → w.cell? (x.add i) = some (.int .u8 (zs.getD i 0))) ∧ ∀ n ∈ zs, (Lit.int .u8 n).wf = true) := by
    rcases open_ints hq hu cu h with ⟨hcs, _⟩ | ⟨y, l, c, zs, hcs, _, hl, hm, hz, _, hcell, hwz⟩
    · simp at hcs
      exact ⟨none, 0, 0, [], hcs, .inl ⟨rfl, rfl, rfl, rfl⟩⟩
    · simp at hcs
      exact ⟨some y, l, c, zs, hcs, .inr ⟨y, rfl, hl, hm, by simpa using hz, hcell, hwz⟩⟩
  obtain ⟨A, n, c, zs, rfl, hr⟩ := key
  obtain ⟨bs, p1, p2, p3, p4⟩ := bytes_in hr
  exact ⟨A, n, c, bs, rfl, p1, p2, p3, p4⟩
theorem sca_in {e i q u : TypeId} {fs : Array Field} {fuel : Nat} {vs : List Value} {x : DataW H × List MemPlace} (he : P.underlying e = some (.struct fs)) (hi : P.underlying i = some (.int .i64)) (hq : P.underlying q = some (.slice u)) (hu : P.underlying u = some (.int .u8))
    (g0 : ∃ f, fs[0]? = some f ∧ f.type = i ∧ f.offset = 0) (g1 : ∃ f, fs[1]? = some f ∧ f.type = q ∧ f.offset = 1) (ce : P.cellsOf e = 2) (ci : P.cellsOf i = 1) (cq : P.cellsOf q = 1) (cu : P.cellsOf u = 1)
    (h : DataW.trod enc P w base (fun _ => true) held fuel e vs = some x) : ∃ s : Sca, vs = [.int .i64 s.n, .slice s.A s.l s.c] ∧ ScaOk w s := by
  obtain ⟨xs, n, -, -, hl, hlen, hf⟩ := DataW.trod_struct he h
  rw [ce] at hl
  obtain ⟨y0, t0⟩ := fld hlen hf g0 ci
  obtain ⟨y1, t1⟩ := fld hlen hf g1 cq
  match vs, hl with
  | [v0, v1], _ =>
    obtain ⟨z0, e0, -, w0⟩ := DataW.trod_int hi t0
    simp at e0
    obtain ⟨A, m, c, bs, rfl, p1, p2, p3, p4⟩ := bytes_v hq hu cu (by simpa using t1)
    exact ⟨⟨z0, A, m, c, bs⟩, by rw [e0], p4, p1, p2, p3, w0⟩
def ScasIn (w : World) (a : Option Addr) (len cap : Nat) : Prop := ∃ ss : List Sca, ss.length = len ∧ len ≤ cap ∧ cap ≤ maxLen ∧ ScaL w a ss
theorem scas_in {t e i q u : TypeId} {fs : Array Field} {fuel : Nat} {a : Option Addr} {len cap : Nat} {x : DataW H × List MemPlace} (ht : P.underlying t = some (.slice e)) (he : P.underlying e = some (.struct fs)) (hi : P.underlying i = some (.int .i64)) (hq : P.underlying q = some (.slice u)) (hu : P.underlying u = some (.int .u8))
    (g0 : ∃ f, fs[0]? = some f ∧ f.type = i ∧ f.offset = 0) (g1 : ∃ f, fs[1]? = some f ∧ f.type = q ∧ f.offset = 1) (ce : P.cellsOf e = 2) (ci : P.cellsOf i = 1) (cq : P.cellsOf q = 1) (cu : P.cellsOf u = 1)
    (h : DataW.trod enc P w base (fun _ => true) held fuel t (Value.slice a len cap).cells.toList = some x) : ScasIn w a len cap := by
  rcases open_slice ht h with ⟨hcs, _⟩ | ⟨y, l, c, m, n, D, Pl, hcs, _, hl, hm, hmm, _, hx⟩
  · simp [Value.cells] at hcs
    obtain ⟨rfl, rfl, rfl⟩ := hcs
    exact ⟨[], rfl, Nat.le_refl _, Nat.zero_le _, fun i hi => absurd hi (by simp)⟩
  · simp [Value.cells] at hcs
    obtain ⟨rfl, rfl, rfl⟩ := hcs
    rw [if_pos rfl] at hmm
    have each : ∀ r, ∃ s : Sca, r < len → (∀ j, j < 2 → w.cell? ((y.add (r * 2)).add j) = ([.int .i64 s.n, .slice s.A s.l s.c] : List Value)[j]?) ∧ ScaOk w s := fun r => by
      by_cases hr : r < len
      · obtain ⟨vs, h1, h2⟩ := hx r (by omega)
        rw [ce] at h1
        obtain ⟨-, -, hcell⟩ := World.cells?_some h1
        obtain ⟨s, rfl, hok⟩ := sca_in he hi hq hu g0 g1 ce ci cq cu h2
        exact ⟨s, fun _ => ⟨hcell, hok⟩⟩
      · exact ⟨default, fun h => absurd h hr⟩
    obtain ⟨C, hC⟩ := Classical.axiomOfChoice each
    have hg : ∀ i, i < len → gat ((List.range len).map C) i = C i := fun i hi => by simp [gat, hi]
    refine ⟨(List.range len).map C, by simp, hl, hm, fun i hi => ?_⟩
    simp only [List.length_map, List.length_range] at hi
    have hsp : y.spot = none := spot_of (x := y) (by
      have h0 := (hC 0 (by omega)).1 0 (by omega)
      simpa [Addr.add] using h0)
    obtain ⟨b, o, s⟩ := y
    simp only at hsp
    subst hsp
    obtain ⟨h3, hok⟩ := hC i hi
    refine ⟨b, o, rfl, ?_, ?_, ?_⟩
    · have := h3 0 (by omega); rw [Addr.add_lit, Addr.add_lit] at this; rw [hg i hi]; simpa using this
    · have := h3 1 (by omega); rw [Addr.add_lit, Addr.add_lit] at this; rw [hg i hi]; simpa using this
    · rw [hg i hi]; exact hok
/-- A deed. -/
structure Dee where
  kind : Int
  at_ : Int
  N : Int
  X : B8
  A : Option Addr
  l : Nat
  c : Nat
  ss : List Sca
instance : Inhabited Dee := ⟨⟨0, 0, 0, 0, none, 0, 0, []⟩⟩
def Dee.cs (d : Dee) : List Value := [.int .i64 d.kind, .int .i64 d.at_, .int .i64 d.N, by8 d.X, .slice d.A d.l d.c]
structure DeeOk (w : World) (d : Dee) : Prop where
  wk : (Lit.int .i64 d.kind).wf = true
  wa : (Lit.int .i64 d.at_).wf = true
  wn : (Lit.int .i64 d.N).wf = true
  scars : ScaL w d.A d.ss
  len : d.ss.length = d.l
  cap : d.l ≤ d.c
  max : d.c ≤ maxLen
theorem dee_in {e i u8 t f q : TypeId} {fs gs : Array Field} {fuel : Nat} {vs : List Value} {x : DataW H × List MemPlace} (he : P.underlying e = some (.struct gs)) (ht : P.underlying t = some (.slice f)) (hf0 : P.underlying f = some (.struct fs)) (hi : P.underlying i = some (.int .i64)) (hq : P.underlying q = some (.slice u8)) (hu : P.underlying u8 = some (.int .u8))
    (k0 : ∀ k, k < 3 → ∃ f, gs[k]? = some f ∧ f.type = i ∧ f.offset = k) (k3 : ∃ f, gs[3]? = some f ∧ f.type = u8 ∧ f.offset = 3) (k4 : ∃ f, gs[4]? = some f ∧ f.type = t ∧ f.offset = 4)
    (g0 : ∃ f, fs[0]? = some f ∧ f.type = i ∧ f.offset = 0) (g1 : ∃ f, fs[1]? = some f ∧ f.type = q ∧ f.offset = 1) (ce : P.cellsOf e = 5) (cf : P.cellsOf f = 2) (ci : P.cellsOf i = 1) (cq : P.cellsOf q = 1) (cu : P.cellsOf u8 = 1) (ct : P.cellsOf t = 1)
    (h : DataW.trod enc P w base (fun _ => true) held fuel e vs = some x) : ∃ d : Dee, vs = d.cs ∧ DeeOk w d := by
  obtain ⟨xs, n, -, -, hl, hlen, hf⟩ := DataW.trod_struct he h
  rw [ce] at hl
  obtain ⟨y0, t0⟩ := fld hlen hf (k0 0 (by omega)) ci
  obtain ⟨y1, t1⟩ := fld hlen hf (k0 1 (by omega)) ci
  obtain ⟨y2, t2⟩ := fld hlen hf (k0 2 (by omega)) ci
  obtain ⟨y3, t3⟩ := fld hlen hf k3 cu
  obtain ⟨y4, t4⟩ := fld hlen hf k4 ct
  match vs, hl with
  | [v0, v1, v2, v3, v4], _ =>
    obtain ⟨z0, e0, -, w0⟩ := DataW.trod_int hi t0
    obtain ⟨z1, e1, -, w1⟩ := DataW.trod_int hi t1
    obtain ⟨z2, e2, -, w2⟩ := DataW.trod_int hi t2
    obtain ⟨z3, e3, -, w3⟩ := DataW.trod_int hu t3
    simp at e0 e1 e2 e3
    have key : ∃ A n c, v4 = .slice A n c := by
      rcases DataW.trod_slice ht t4 with ⟨hcs, _⟩ | ⟨y, l, c, elems, rest, n, -, hcs, -⟩
      · simp at hcs; exact ⟨none, 0, 0, hcs⟩
      · simp at hcs; exact ⟨some y, l, c, hcs⟩
    obtain ⟨A, m, c, rfl⟩ := key
    obtain ⟨ss, p1, p2, p3, p4⟩ := scas_in ht hf0 hi hq hu g0 g1 cf ci cq cu (by simpa [Value.cells] using t4)
    obtain ⟨X, hX⟩ : ∃ X : B8, v3 = by8 X := by
      obtain ⟨X, hX⟩ := u8_in w3
      exact ⟨X, by rw [e3, hX]; rfl⟩
    exact ⟨⟨z0, z1, z2, X, A, m, c, ss⟩, by rw [e0, e1, e2, hX]; rfl, w0, w1, w2, p4, p1, p2, p3⟩
def DeeL (w : World) (A : Option Addr) (ds : List Dee) : Prop := ∀ i, i < ds.length → ∃ b o, A = some ⟨b, o, none⟩ ∧ (∀ j, j < 5 → w.cell? ⟨b, o + i * 5 + j, none⟩ = (gat ds i).cs[j]?) ∧ DeeOk w (gat ds i)
def DeesIn (w : World) (a : Option Addr) (len cap : Nat) : Prop := ∃ ds : List Dee, ds.length = len ∧ len ≤ cap ∧ cap ≤ maxLen ∧ DeeL w a ds
theorem dees_in {td e i u8 t f q : TypeId} {fs gs : Array Field} {fuel : Nat} {a : Option Addr} {len cap : Nat} {x : DataW H × List MemPlace} (htd : P.underlying td = some (.slice e)) (he : P.underlying e = some (.struct gs)) (ht : P.underlying t = some (.slice f)) (hf0 : P.underlying f = some (.struct fs)) (hi : P.underlying i = some (.int .i64)) (hq : P.underlying q = some (.slice u8)) (hu : P.underlying u8 = some (.int .u8))
    (k0 : ∀ k, k < 3 → ∃ f, gs[k]? = some f ∧ f.type = i ∧ f.offset = k) (k3 : ∃ f, gs[3]? = some f ∧ f.type = u8 ∧ f.offset = 3) (k4 : ∃ f, gs[4]? = some f ∧ f.type = t ∧ f.offset = 4)
    (g0 : ∃ f, fs[0]? = some f ∧ f.type = i ∧ f.offset = 0) (g1 : ∃ f, fs[1]? = some f ∧ f.type = q ∧ f.offset = 1) (ce : P.cellsOf e = 5) (cf : P.cellsOf f = 2) (ci : P.cellsOf i = 1) (cq : P.cellsOf q = 1) (cu : P.cellsOf u8 = 1) (ct : P.cellsOf t = 1)
    (h : DataW.trod enc P w base (fun _ => true) held fuel td (Value.slice a len cap).cells.toList = some x) : DeesIn w a len cap := by
  rcases open_slice htd h with ⟨hcs, _⟩ | ⟨y, l, c, m, n, D, Pl, hcs, _, hl, hm, hmm, _, hx⟩
  · simp [Value.cells] at hcs
    obtain ⟨rfl, rfl, rfl⟩ := hcs
    exact ⟨[], rfl, Nat.le_refl _, Nat.zero_le _, fun i hi => absurd hi (by simp)⟩
  · simp [Value.cells] at hcs
    obtain ⟨rfl, rfl, rfl⟩ := hcs
    rw [if_pos rfl] at hmm
    have each : ∀ r, ∃ d : Dee, r < len → (∀ j, j < 5 → w.cell? ((y.add (r * 5)).add j) = d.cs[j]?) ∧ DeeOk w d := fun r => by
      by_cases hr : r < len
      · obtain ⟨vs, h1, h2⟩ := hx r (by omega)
        rw [ce] at h1
        obtain ⟨-, -, hcell⟩ := World.cells?_some h1
        obtain ⟨d, rfl, hok⟩ := dee_in he ht hf0 hi hq hu k0 k3 k4 g0 g1 ce cf ci cq cu ct h2
        exact ⟨d, fun _ => ⟨hcell, hok⟩⟩
      · exact ⟨default, fun h => absurd h hr⟩
    obtain ⟨C, hC⟩ := Classical.axiomOfChoice each
    have hg : ∀ i, i < len → gat ((List.range len).map C) i = C i := fun i hi => by simp [gat, hi]
    refine ⟨(List.range len).map C, by simp, hl, hm, fun i hi => ?_⟩
    simp only [List.length_map, List.length_range] at hi
    have hsp : y.spot = none := spot_of (x := y) (v := .int .i64 (C 0).kind) (by
      have h0 := (hC 0 (by omega)).1 0 (by omega)
      simpa [Addr.add, Dee.cs] using h0)
    obtain ⟨b, o, s⟩ := y
    simp only at hsp
    subst hsp
    obtain ⟨h3, hok⟩ := hC i hi
    refine ⟨b, o, rfl, fun j hj => ?_, ?_⟩
    · have := h3 j hj; rw [Addr.add_lit, Addr.add_lit] at this; rw [hg i hi]; exact this
    · rw [hg i hi]; exact hok
end
end Go.Proofs.Ytejjofjhcgdedaa
