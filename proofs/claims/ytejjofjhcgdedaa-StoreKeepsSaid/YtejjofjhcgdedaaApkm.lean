/- A slice of the call's own whose elements take several cells: append of another such slice; a part is written over; cells of a block are written. -/
import Derived.Test.YtejjofjhcgdedaaOwk
import Derived.Test.YtejjofjhcgdedaaBlk
import Derived.Deep.MidRow
namespace Go.Proofs.Ytejjofjhcgdedaa
set_option linter.unusedSimpArgs false
set_option linter.unusedVariables false
open Go.RowKit
/-! ### lists of elements of several cells -/
section
variable {α β : Type}
theorem fm_len (f : α → List β) (sz : Nat) : ∀ l : List α, (∀ x ∈ l, (f x).length = sz) → (l.flatMap f).length = l.length * sz
  | [], _ => by simp
  | x :: r, h => by
    rw [List.flatMap_cons, List.length_append, fm_len f sz r (fun y hy => h y (List.mem_cons_of_mem _ hy)), h x (List.mem_cons_self ..), List.length_cons, Nat.succ_mul, Nat.add_comm]
theorem fm_split [Inhabited α] (f : α → List β) {l : List α} {i : Nat} (hi : i < l.length) : l.flatMap f = (l.take i).flatMap f ++ (f (gat l i) ++ (l.drop (i + 1)).flatMap f) := by
  have h1 : l = l.take i ++ (gat l i :: l.drop (i + 1)) := by
    rw [gat_lt hi, ← List.drop_eq_getElem_cons hi, List.take_append_drop]
  have h2 : l.flatMap f = (l.take i ++ (gat l i :: l.drop (i + 1))).flatMap f := congrArg (fun x => x.flatMap f) h1
  rw [h2, List.flatMap_append, List.flatMap_cons]
theorem fm_take (f : α → List β) (sz : Nat) {l : List α} (h : ∀ x ∈ l, (f x).length = sz) {i : Nat} (hi : i ≤ l.length) : (l.flatMap f).take (i * sz) = (l.take i).flatMap f := by
  have h1 : l.flatMap f = (l.take i).flatMap f ++ (l.drop i).flatMap f := by rw [← List.flatMap_append, List.take_append_drop]
  rw [h1]
  exact List.take_left' (by rw [fm_len f sz _ (fun x hx => h x (List.mem_of_mem_take hx)), List.length_take, Nat.min_eq_left hi])
theorem fm_drop (f : α → List β) (sz : Nat) {l : List α} (h : ∀ x ∈ l, (f x).length = sz) {i : Nat} (hi : i ≤ l.length) : (l.flatMap f).drop (i * sz) = (l.drop i).flatMap f := by
  have h1 : l.flatMap f = (l.take i).flatMap f ++ (l.drop i).flatMap f := by rw [← List.flatMap_append, List.take_append_drop]
  rw [h1]
  exact List.drop_left' (by rw [fm_len f sz _ (fun x hx => h x (List.mem_of_mem_take hx)), List.length_take, Nat.min_eq_left hi])
theorem fm_at [Inhabited α] (f : α → List β) (sz : Nat) {l : List α} (h : ∀ x ∈ l, (f x).length = sz) {i j : Nat} (hi : i < l.length) (hj : j < sz) : (l.flatMap f)[i * sz + j]? = (f (gat l i))[j]? := by
  have hl : ((l.take i).flatMap f).length = i * sz := by rw [fm_len f sz _ (fun x hx => h x (List.mem_of_mem_take hx)), List.length_take, Nat.min_eq_left (by omega)]
  have hg : (f (gat l i)).length = sz := h _ (by rw [gat_lt hi]; exact List.getElem_mem _)
  rw [fm_split f hi, List.getElem?_append_right (by omega), hl, Nat.add_sub_cancel_left, List.getElem?_append_left (by omega)]
theorem fm_set [Inhabited α] (f : α → List β) (sz : Nat) {l : List α} (h : ∀ x ∈ l, (f x).length = sz) {i : Nat} (hi : i < l.length) (y : α) : (l.set i y).flatMap f = (l.flatMap f).take (i * sz) ++ (f y ++ (l.flatMap f).drop ((i + 1) * sz)) := by
  rw [fm_take f sz h (Nat.le_of_lt hi), fm_drop f sz h hi, List.set_eq_take_append_cons_drop, if_pos hi, List.flatMap_append, List.flatMap_cons]
theorem fm_erase (f : α → List β) (sz : Nat) {l : List α} (h : ∀ x ∈ l, (f x).length = sz) {i : Nat} (hi : i < l.length) : (l.eraseIdx i).flatMap f = (l.flatMap f).take (i * sz) ++ (l.flatMap f).drop ((i + 1) * sz) := by
  rw [fm_take f sz h (Nat.le_of_lt hi), fm_drop f sz h hi, List.eraseIdx_eq_take_drop_succ, List.flatMap_append]
end
/-! ### cells of a block are written -/
theorem setCells_upd (g : Nat) : ∀ (vs : List Value) (w : World) (o : Nat), Upd (Go.Proofs.Ytejjofjhcgdedaa.only g) w (w.setCells g o vs)
  | [], w, _ => Upd.refl _ _
  | v :: r, w, o => ((Upd.refl _ _).setCell (T := Go.Proofs.Ytejjofjhcgdedaa.only g) (p := ⟨g, o, none⟩) (.inl rfl) v).trans (setCells_upd g r _ (o + 1))
theorem setCells_blk {g : Nat} {t : TypeId} : ∀ (vs : List Value) (w : World) (cs : Array Value) (o : Nat), Blk w g t cs → o + vs.length ≤ cs.size → Blk (w.setCells g o vs) g t (cs.toList.take o ++ (vs ++ cs.toList.drop (o + vs.length))).toArray
  | [], w, cs, o, h, _ => by
    rw [List.nil_append, List.length_nil, Nat.add_zero, List.take_append_drop]
    exact h
  | v :: r, w, cs, o, h, hs => by
    have hi : o < cs.size := by simp only [List.length_cons] at hs; omega
    have h1 := setCells_blk r (w.setCell ⟨g, o, none⟩ v) (cs.set! o v) (o + 1) (h.set o v) (by simp only [List.length_cons] at hs; simp; omega)
    have e : (cs.set! o v).toList.take (o + 1) ++ (r ++ (cs.set! o v).toList.drop (o + 1 + r.length)) = cs.toList.take o ++ (v :: r ++ cs.toList.drop (o + (v :: r).length)) := by
      simp only [Array.set!_eq_setIfInBounds, Array.toList_setIfInBounds]
      rw [List.drop_set_of_lt (by omega), List.take_succ_eq_append_getElem (by simp; omega), show o + 1 + r.length = o + (v :: r).length by simp only [List.length_cons]; omega]
      simp [List.take_set_of_le]
    rw [e] at h1
    exact h1
/-- a part of an own row is written over -/
theorem OwnK.over {w : World} {B : Nat} {e : TypeId} {sz g n c : Nat} {xs : List Value} (h : OwnK w B e sz (some ⟨g, 0, none⟩) n c xs) (o : Nat) (vs : List Value) (hl : o + vs.length ≤ xs.length) :
    OwnK (w.setCells g o vs) B e sz (some ⟨g, 0, none⟩) n c (xs.take o ++ (vs ++ xs.drop (o + vs.length))) := by
  obtain ⟨h1, h2⟩ := h
  refine ⟨by simp only [List.length_append, List.length_take, List.length_drop]; omega, ?_⟩
  rcases h2 with ⟨h0, _⟩ | ⟨g', cap, cur, hv, hb, hg, hnc, hm, hcs, htake⟩
  · cases h0
  · injection hv with hA hn hc
    injection hA with hA
    injection hA with hA
    subst hA
    subst hc
    have hxc : xs.length ≤ cur.toList.length := by rw [← htake, List.length_take]; omega
    have hB := setCells_blk (t := e) vs w cur o hg (by simp at hxc; omega)
    refine .inr ⟨g, c, _, rfl, hb, hB, hnc, hm, ?_, ?_⟩
    · simp only [List.size_toArray, List.length_append, List.length_take, List.length_drop]
      simp at hxc ⊢
      omega
    · show (cur.toList.take o ++ (vs ++ cur.toList.drop (o + vs.length))).take (n * sz) = _
      have hl1 : (cur.toList.take o).length = o := by rw [List.length_take]; omega
      have hm2 : o + vs.length ≤ n * sz := by rw [← h1]; exact hl
      have e1 : ∀ (P D : List Value) (m : Nat), P.length = o → o + vs.length ≤ m → (P ++ (vs ++ D)).take m = P ++ (vs ++ D.take (m - (o + vs.length))) := fun P D m hP hm => by
        rw [List.take_append, List.take_append, hP]
        have e2 : P.take m = P := List.take_of_length_le (by omega)
        have e3 : vs.take (m - o) = vs := List.take_of_length_le (by omega)
        rw [e2, e3, show m - o - vs.length = m - (o + vs.length) by omega]
      rw [e1 _ _ _ hl1 hm2, ← htake, List.take_take, Nat.min_eq_left (by omega), List.drop_take]
end Go.Proofs.Ytejjofjhcgdedaa
