/- Blocks of known cells. -/
import Derived.Test.YtejjofjhcgdedaaBase
namespace Go.Proofs.Ytejjofjhcgdedaa
set_option linter.unusedSimpArgs false
set_option linter.unusedVariables false
open Go.RowKit
abbrev B8 := BitVec 8
/-- a block of these cells -/
def Blk (w : World) (g : Nat) (t : TypeId) (cs : Array Value) : Prop := w.heap[g]? = some (.cells cs t (0, 0))
theorem Blk.lt {w : World} {g : Nat} {t : TypeId} {cs : Array Value} (h : Blk w g t cs) : g < w.heap.size := (Array.getElem?_eq_some_iff.1 h).1
theorem Blk.at {w : World} {g : Nat} {t : TypeId} {cs : Array Value} (h : Blk w g t cs) (i : Nat) {v : Value} (hv : cs[i]? = some v) : w.cell? ⟨g, i, none⟩ = some v := by unfold Blk at h; simp [World.cell?, h, hv]
theorem Blk.frozen {w : World} {g : Nat} {t : TypeId} {cs : Array Value} (h : Blk w g t cs) (o : Nat) : w.frozen? ⟨g, o, none⟩ = false := by unfold Blk at h; simp [World.frozen?, h]
theorem Blk.upd {w w' : World} {g : Nat} {t : TypeId} {cs : Array Value} {T : Nat → Prop} (h : Blk w g t cs) (hu : Upd T w w') (hT : ¬ T g) : Blk w' g t cs := (hu.block g h.lt hT).trans h
theorem Blk.ext {w w' : World} {g : Nat} {t : TypeId} {cs : Array Value} (h : Blk w g t cs) (hu : Ext w w') : Blk w' g t cs := h.upd hu (fun h => h)
theorem Blk.new (w : World) (t : TypeId) (cs : Array Value) : Blk (w.alloc (.cells cs t)) w.heap.size t cs := heap_alloc_new w _
theorem Blk.new_at {w : World} {g : Nat} {t : TypeId} {cs : Array Value} (hg : w.heap.size = g) : Blk (w.alloc (.cells cs t)) g t cs := by subst hg; exact Blk.new _ _ _
theorem Blk.set {w : World} {g : Nat} {t : TypeId} {cs : Array Value} (h : Blk w g t cs) (i : Nat) (u : Value) : Blk (w.setCell ⟨g, i, none⟩ u) g t (cs.set! i u) := by
  unfold Blk at *
  simp [World.setCell, Array.getElem?_modify, h]
theorem own_blk {w : World} {B : Nat} {e t : TypeId} {A : Option Addr} {c g : Nat} {xs : List Value} {cs : Array Value} (h : Own w B e A c xs) (h' : Blk w g t cs) (hne : e ≠ t) : ¬ inA A g := fun hk => by
  rcases h.2 with ⟨h0, _⟩ | ⟨g', cap, cur, hv, hb, hg, _⟩
  · injection h0 with h0; subst h0; simp [inA] at hk
  · injection hv with hA
    rw [hA] at hk
    simp [inA] at hk
    subst hk
    unfold Blk at h'
    rw [hg] at h'
    injection h' with h'
    injection h' with _ h'
    exact hne h'
/-- cells of a block are written, one behind the other -/
def setAll (w : World) (g : Nat) : Nat → List Value → World
  | _, [] => w
  | i, v :: r => setAll (w.setCell ⟨g, i, none⟩ v) g (i + 1) r
theorem setAll_upd (g : Nat) : ∀ (vs : List Value) (w : World) (i : Nat), Upd (Go.Proofs.Ytejjofjhcgdedaa.only g) w (setAll w g i vs)
  | [], w, _ => Upd.refl _ _
  | v :: r, w, i => ((Upd.refl _ _).setCell (T := Go.Proofs.Ytejjofjhcgdedaa.only g) (p := ⟨g, i, none⟩) (.inl rfl) v).trans (setAll_upd g r _ (i + 1))
theorem setAll_blk {g : Nat} {t : TypeId} : ∀ (vs : List Value) (w : World) (cs : Array Value) (i : Nat), Blk w g t cs → cs.size = i + vs.length → Blk (setAll w g i vs) g t (cs.toList.take i ++ vs).toArray
  | [], w, cs, i, h, hs => by
    have : cs.toList.take i = cs.toList := List.take_of_length_le (by simp at hs ⊢; omega)
    rw [List.append_nil, this]
    exact h
  | v :: r, w, cs, i, h, hs => by
    have hi : i < cs.size := by rw [hs, List.length_cons]; omega
    have h1 := setAll_blk r (w.setCell ⟨g, i, none⟩ v) (cs.set! i v) (i + 1) (h.set i v) (by simp at hs ⊢; omega)
    have e : (cs.set! i v).toList.take (i + 1) ++ r = cs.toList.take i ++ v :: r := by
      simp only [Array.set!_eq_setIfInBounds, Array.toList_setIfInBounds]
      rw [List.take_succ_eq_append_getElem (by simp; omega)]
      simp [List.take_set_of_le]
    rw [e] at h1
    exact h1
theorem setAll_all {w w' : World} {g : Nat} {t : TypeId} {cs : Array Value} (vs : List Value) (h : Blk w g t cs) (hs : cs.size = vs.length) (hw : w' = setAll w g 0 vs) : Blk w' g t vs.toArray ∧ Upd (Go.Proofs.Ytejjofjhcgdedaa.only g) w w' := by
  have := setAll_blk vs w cs 0 h (by omega)
  rw [hw]
  exact ⟨by simpa using this, setAll_upd g vs w 0⟩
end Go.Proofs.Ytejjofjhcgdedaa
