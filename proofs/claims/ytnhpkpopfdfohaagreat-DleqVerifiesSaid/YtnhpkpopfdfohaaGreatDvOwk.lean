/- A slice of the call's own whose elements take several cells; append of one element. -/
import Derived.Test.YtnhpkpopfdfohaaGreatDvCers
import Derived.Test.YtnhpkpopfdfohaaGreatDvRefs
import Derived.Test.YtnhpkpopfdfohaaGreatDvBase
namespace Go.Proofs.YtnhpkpopfdfohaaGreat
set_option linter.unusedSimpArgs false
set_option linter.unusedVariables false
open Go.RowKit
open Nt
def RefL (w : World) (A : Option Addr) (ns : List Nat) : Prop := ∃ ts : List Tri, ts.length = ns.length ∧ Sl svt w A ts ∧ ∀ i, i < ns.length → RefV w (svt (gat ts i)) (gat ns i)
theorem RefL.ext {w w' : World} {A : Option Addr} {ns : List Nat} (h : RefL w A ns) (hu : Ext w w') : RefL w' A ns := by
  obtain ⟨ts, h1, h2, h3⟩ := h
  exact ⟨ts, h1, h2.ext hu, fun i hi => (h3 i hi).ext hu⟩
theorem RefL.at {w : World} {A : Option Addr} {ns : List Nat} (h : RefL w A ns) {i : Nat} (hi : i < ns.length) : ∃ b o B l c, A = some ⟨b, o, none⟩ ∧ w.cell? ⟨b, o + i, none⟩ = some (.slice B l c) ∧ RefV w (.slice B l c) (gat ns i) := by
  obtain ⟨ts, h1, h2, h3⟩ := h
  obtain ⟨b, o, rfl, -, hc⟩ := h2.open_ (by omega)
  exact ⟨b, o, _, _, _, rfl, hc i (by omega), h3 i hi⟩
theorem RefV.len {w : World} {A : Option Addr} {l c n : Nat} (h : RefV w (.slice A l c) n) : l = blen n := by
  obtain ⟨A', l', c', xs, e, hlx, hca, hma, hSa, hTa, hna⟩ := h.open_
  injection e with _ e2 _
  subst e2
  have := bits_len (hlx ▸ hTa)
  rw [hna, hlx] at this
  exact this
end Go.Proofs.YtnhpkpopfdfohaaGreat
namespace Go.Proofs.YtnhpkpopfdfohaaGreat
set_option linter.unusedSimpArgs false
set_option linter.unusedVariables false
open Go.RowKit
def OwnK (w : World) (B : Nat) (e : TypeId) (sz : Nat) (A : Option Addr) (n c : Nat) (xs : List Value) : Prop := w.ownsRow B e sz (.slice A n c) n xs
section
variable {w w' : World} {B : Nat} {e : TypeId} {sz n c : Nat} {A : Option Addr} {xs : List Value} {T : Nat → Prop}
theorem OwnK.nil : OwnK w B e sz none 0 0 [] := World.ownsRow_nil w B e sz
theorem OwnK.in_ (h : OwnK w B e sz A n c xs) {k : Nat} (hk : inA A k) : B ≤ k ∧ k < w.heap.size := by
  refine World.ownsRow.lt h k ?_
  unfold inA at hk
  cases A with
  | none => simp at hk
  | some a => simpa [Value.ownBlock] using hk
theorem OwnK.upd (h : OwnK w B e sz A n c xs) (hu : Upd T w w') (hT : ∀ k, inA A k → ¬ T k) : OwnK w' B e sz A n c xs := by
  obtain ⟨h1, h2⟩ := h
  refine ⟨h1, ?_⟩
  rcases h2 with h2 | ⟨g, cap, cur, hv, hb, hg, r⟩
  · exact .inl h2
  · refine .inr ⟨g, cap, cur, hv, hb, ?_, r⟩
    have hlt : g < w.heap.size := (Array.getElem?_eq_some_iff.1 hg).1
    injection hv with hA
    rw [hu.block g hlt (hT g (by rw [hA]; simp [inA]))]
    exact hg
theorem OwnK.ext (h : OwnK w B e sz A n c xs) (hu : Ext w w') : OwnK w' B e sz A n c xs := h.upd hu (fun _ _ h => h)
theorem OwnK.len (h : OwnK w B e sz A n c xs) : xs.length = n * sz := h.1
theorem OwnK.cap (h : OwnK w B e sz A n c xs) : n ≤ c ∧ c ≤ maxLen := by
  rcases h.2 with ⟨h0, h1⟩ | ⟨g, cap, cur, hv, hb, hg, hn, hm, _⟩
  · injection h0 with _ h2 h3; subst h3; exact ⟨by omega, Nat.zero_le _⟩
  · injection hv with _ _ h3; subst h3; exact ⟨hn, hm⟩
theorem OwnK.open_ (h : OwnK w B e sz A n c xs) (hn : 0 < n) : ∃ g, A = some ⟨g, 0, none⟩ ∧ B ≤ g ∧ g < w.heap.size ∧ ∀ i, i < xs.length → w.cell? ⟨g, i, none⟩ = xs[i]? := by
  rcases h.2 with ⟨_, h0⟩ | ⟨g, cap, cur, hv, hb, hg, hnc, hm, hcs, htake⟩
  · omega
  · injection hv with hA
    refine ⟨g, hA, hb, (Array.getElem?_eq_some_iff.1 hg).1, fun i hi => ?_⟩
    rw [cell_of_row w g i cur e (0, 0) hg]
    have h2 : (cur.toList.take (n * sz))[i]? = xs[i]? := by rw [htake]
    rw [List.getElem?_take, if_pos (by rw [← h.1]; exact hi)] at h2
    simpa using h2
end
end Go.Proofs.YtnhpkpopfdfohaaGreat
