/- append(s, t...): onto a full row that can only be read. -/
import Derived.Test.YtejjofjhcgdedaaBase
import Derived.ArgAppend
namespace Go.Proofs.Ytejjofjhcgdedaa
set_option linter.unusedSimpArgs false
set_option linter.unusedVariables false
open Go.RowKit
theorem wpList_apn {P : Program} {w : World} {α : Type} [Inhabited α] (f : α → Value) (hone : ∀ x, (f x).oneCell' = true) {T e : TypeId} {z : Value} {bytes : Nat} (E : ElemI P T e z bytes) (xs ys zs : List α) (N : Nat) (hz : xs ++ ys = zs) (hN : zs.length = N)
    (hb : N * bytes ≤ 140737488355328) (hm : N ≤ maxLen) {ops : Array Oper} {rest : List Oper} {o : Oper} {a : Act} {Q : Exit → Act → World → Prop} {s x : Operand}
    (hgd : o.guard = none) (ho : o.op = .call { callee := .builtin .append, args := #[s, x], argTypes := #[T, T] }) {b off n : Nat} (hs : a.eval s = .slice (some ⟨b, off, none⟩) n n) (hn : xs.length = n)
    (hS : Sl f w (some ⟨b, off, none⟩) xs) {A2 : Option Addr} {m c2 : Nat} (hx : a.eval x = .slice A2 m c2) (hym : ys.length = m) (hr : Sl f w A2 ys) (h0 : 0 < m)
    (h : ∀ A' c' w', Own w' w.heap.size e A' c' (zs.map f) → Ext w w' → wpList P ops Q rest (a.put o.dst (.slice A' N c')) w') : wpList P ops Q (o :: rest) a w := by
  obtain ⟨i, hi, hz', hs1, hb1⟩ := info_parts E.info
  obtain ⟨b2, o2, rfl, -, -⟩ := hr.open_ (by omega)
  have hl : n + m = N := by rw [← hN, ← hz, List.length_append, hn, hym]
  refine wpList_append_arg w hgd s x T ho e i z 1 bytes E.under hi hz' hs1 hb1 E.one (by omega) b off n n (xs.map f) hs (by simp [hn]) ?_ ⟨b2, o2, none⟩ m c2 (ys.map f) hx (by simp [hym]) (hr.news _ rfl) (fun u hu => by obtain ⟨y, _, rfl⟩ := List.mem_map.1 hu; exact hone y) (fun hh => absurd hh (by omega)) (by omega) (by rw [hl]; exact hb) (fun hh => absurd hh (by omega)) ?_
  · intro j u hu
    have := hS.news ⟨b, off, none⟩ rfl j u hu
    rwa [Addr.add_lit] at this
  · intro _ v' w' hown hg
    have hU : Ext w w' := ⟨hg.os, hg.tape, hg.output, hg.size, fun k hk _ => hg.block k hk (by simp)⟩
    have hform : ∃ A' c', v' = .slice A' N c' := by
      rcases hown.2 with ⟨h1, hn1⟩ | ⟨g, cap, cur, h1, _⟩
      · exact ⟨none, 0, by rw [h1, ← hl, hn1]⟩
      · exact ⟨_, _, by rw [h1, hl]⟩
    obtain ⟨A', c', rfl⟩ := hform
    refine h A' c' w' ?_ hU
    unfold Own
    have e1 : (zs.map f).length = N := by simp [hN]
    rw [e1, ← hl, ← hz, List.map_append, hl]
    rw [hl] at hown
    exact hown
end Go.Proofs.Ytejjofjhcgdedaa
