/- Deeds that came in: how many scars each may have. -/
import Derived.Test.YtejjofjhcgdedaaScaQ
import Derived.SizedLaws
namespace Go.Proofs.Ytejjofjhcgdedaa
set_option linter.unusedSimpArgs false
set_option linter.unusedVariables false
open Go.RowKit
open Sha
open Go.Deep Go.ChangeShapes Go.WideShapes
section
variable {H : Type} {enc : TypeId × Value → H} {P : Program} {w : World} {base : Nat} {held : Bool}
theorem weightsAll_mem {e : TypeId} : ∀ {ds : List (DataW H)} {d : DataW H}, d ∈ ds → ∀ n ∈ d.weights P e, n ∈ DataW.weightsAll P e ds
  | d0 :: r, d, h, n, hn => by
    simp only [DataW.weightsAll, List.mem_append]
    rcases List.mem_cons.1 h with rfl | h
    · exact .inl hn
    · exact .inr (weightsAll_mem h n hn)
theorem dees_size {td e t f : TypeId} {gs : Array Field} {fuel : Nat} {a : Option Addr} {len cap : Nat} {x : DataW H × List MemPlace} (htd : P.underlying td = some (.slice e)) (he : P.underlying e = some (.struct gs)) (ht : P.underlying t = some (.slice f))
    (k4 : ∃ f, gs[4]? = some f ∧ f.type = t ∧ f.offset = 4) (ce : P.cellsOf e = 5) (ct : P.cellsOf t = 1) (cb : P.bytesOf f = 32)
    (h : DataW.trod enc P w base (fun _ => true) held fuel td (Value.slice a len cap).cells.toList = some x) (hw : ∀ n ∈ x.1.weights P td, n ≤ reachBytes) :
    ∀ i, i < len → ∃ y, a = some y ∧ ∃ A l c, w.cell? ((y.add (i * 5)).add 4) = some (.slice A l c) ∧ c * 32 ≤ reachBytes := by
  rcases open_slice htd h with ⟨hcs, _⟩ | ⟨y, l, c, m, n, D, Pl, hcs, _, hl, hm, hmm, hx1, hx⟩
  · simp [Value.cells] at hcs
    obtain ⟨rfl, rfl, rfl⟩ := hcs
    exact fun i hi => absurd hi (by omega)
  · simp [Value.cells] at hcs
    obtain ⟨rfl, rfl, rfl⟩ := hcs
    rw [if_pos rfl] at hmm
    intro i hi
    obtain ⟨vs, h1, h2⟩ := hx i (by omega)
    rw [ce] at h1
    obtain ⟨-, -, hcell⟩ := World.cells?_some h1
    obtain ⟨xs, n', -, hxs, hl5, hlen, hf⟩ := DataW.trod_struct he h2
    rw [ce] at hl5
    obtain ⟨f4, e1, e2, e3⟩ := k4
    have hf4 := hf 4 f4 e1
    rw [e2, e3, ct] at hf4
    have h4 : 4 < xs.length := by rw [hlen]; exact (Array.getElem?_eq_some_iff.1 e1).1
    rw [List.getElem?_eq_getElem h4] at hf4
    match vs, hl5 with
    | [v0, v1, v2, v3, v4], _ =>
      have hc4 : w.cell? ((y.add (i * 5)).add 4) = some v4 := by simpa using hcell 4 (by omega)
      have t4 : DataW.trod enc P w base (fun _ => true) held n' t [v4] = some xs[4] := by simpa using hf4
      refine ⟨y, rfl, ?_⟩
      have hD : D i = .agg (xs.map (·.1)) := congrArg Prod.fst hxs
      have hmem : ∀ n ∈ (xs[4].1).weights P t, n ≤ reachBytes := fun n hn => by
        refine hw n ?_
        rw [hx1]
        simp only [DataW.weights, htd]
        refine List.mem_cons_of_mem _ (List.mem_append.2 (.inl (weightsAll_mem (d := D i) (List.mem_map.2 ⟨i, List.mem_range.2 hi, rfl⟩) n ?_)))
        rw [hD]
        simp only [DataW.weights, he]
        exact DataW.weights_mem_each (j := 4) (t := t) (d := xs[4].1) (by simp [List.getElem?_map, Array.getElem?_toList, e1, e2]) (by simp [List.getElem?_map, List.getElem?_eq_getElem h4]) n hn
      rcases open_slice ht t4 with ⟨hcs, _⟩ | ⟨y', l', c', m', n2, D', Pl', hcs, _, hl', hm', hmm', hx1', -⟩
      · simp at hcs
        exact ⟨none, 0, 0, by rw [hc4, hcs], Nat.zero_le _⟩
      · simp at hcs
        rw [if_pos rfl] at hmm'
        refine ⟨some y', l', c', by rw [hc4, hcs], ?_⟩
        have := hmem ((l' + (m' - l')) * P.bytesOf f) (by
          rw [hx1']
          simp only [DataW.weights, ht, List.length_map, List.length_range]
          exact List.mem_cons_self ..)
        rw [cb, show l' + (m' - l') = c' by omega] at this
        exact this
def DeesInB (w : World) (a : Option Addr) (len cap : Nat) : Prop := ∃ ds : List Dee, ds.length = len ∧ len ≤ cap ∧ cap ≤ maxLen ∧ DeeL w a ds ∧ ∀ i, i < ds.length → (gat ds i).c * 32 ≤ 140737488351232
theorem dees_inB {a : Option Addr} {len cap : Nat} (h : DeesIn w a len cap) (hs : ∀ i, i < len → ∃ y, a = some y ∧ ∃ A l c, w.cell? ((y.add (i * 5)).add 4) = some (.slice A l c) ∧ c * 32 ≤ reachBytes) : DeesInB w a len cap := by
  obtain ⟨ds, h1, h2, h3, hL⟩ := h
  refine ⟨ds, h1, h2, h3, hL, fun i hi => ?_⟩
  obtain ⟨y, e, A, l, c, hc, hb⟩ := hs i (by rw [← h1]; exact hi)
  obtain ⟨b, o, e', hcs, -⟩ := hL i hi
  rw [e] at e'
  injection e' with e'
  subst e'
  have h4 := hcs 4 (by omega)
  rw [Addr.add_lit, Addr.add_lit] at hc
  rw [hc] at h4
  have h5 : (gat ds i).cs[4]? = some (.slice (gat ds i).A (gat ds i).l (gat ds i).c) := rfl
  rw [h5] at h4
  injection h4 with h4
  injection h4 with _ _ h4
  rw [← h4]
  exact hb
end
end Go.Proofs.Ytejjofjhcgdedaa
