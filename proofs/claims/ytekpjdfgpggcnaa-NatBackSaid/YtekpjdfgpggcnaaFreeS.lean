/- A region whose order is open, by shapes: of each operation it is said which shape its value has (a known value, a number, bytes, two or three of them, a new block, a block that has been written); each is walked once. -/
import Derived.Test.YtekpjdfgpggcnaaFreeV
import Derived.Test.YtekpjdfgpggcnaaBox
import Derived.Test.YtekpjdfgpggcnaaNatB
namespace Go.Proofs.Ytekpjdfgpggcnaa
set_option linter.unusedSimpArgs false
set_option linter.unusedVariables false
open Go.RowKit
open Nt

def softB : Value → Bool
  | .int _ _ => false
  | .bool _ => false
  | _ => true
/-- A block of one cell that holds neither a digit nor a truth. -/
def Zs (w : World) (b : Nat) : Prop := ∃ t v, Box w b t v ∧ softB v = true
theorem Sl.change {α : Type} [Inhabited α] {f : α → Value} (hf : ∀ x, softB (f x) = false) {w w' : World} {A : Option Addr} {xs : List α} {T : Nat → Prop} (h : Sl f w A xs) (hU : Upd T w w') (hT : ∀ b, T b → Zs w b) : Sl f w' A xs := fun i hi => by
  obtain ⟨b, o, e, hc⟩ := h i hi
  refine ⟨b, o, e, ?_⟩
  rw [← hc]
  refine hU.cell (p := ⟨b, o + i, none⟩) (World.block_lt_of_cell? w _ hc) (fun ht => ?_)
  obtain ⟨t, v, hb, hs⟩ := hT _ ht
  unfold Box at hb
  simp only [World.cell?, hb] at hc
  rcases Nat.eq_zero_or_pos (o + i) with h0 | h0
  · rw [h0] at hc
    simp at hc
    rw [hc, hf] at hs
    cases hs
  · rw [Array.getElem?_eq_none (by simp only [List.size_toArray, List.length_cons, List.length_nil]; omega)] at hc; cases hc
theorem NumS.change {α : Type} [Inhabited α] {f : α → Value} (hf : ∀ x, softB (f x) = false) {d : α → Nat} {β : Nat} {w w' : World} {s : Value} {n : Nat} {T : Nat → Prop} (h : NumS f d β w s n) (hU : Upd T w w') (hT : ∀ b, T b → Zs w b) : NumS f d β w' s n := by
  obtain ⟨A, c, xs, h1, h2, h3, h4, h5⟩ := h
  exact ⟨A, c, xs, h1, h2, h3, h4.change hf hU hT, h5⟩
theorem NatV.change' {w w' : World} {v : Value} {n : Nat} {T : Nat → Prop} (h : NatV w v n) (hU : Upd T w w') (hT : ∀ b, T b → Zs w b) : NatV w' v n := by
  obtain ⟨s, h0, h⟩ := h
  exact ⟨s, h0, h.change (fun _ => rfl) hU hT⟩
theorem RefV.change' {w w' : World} {v : Value} {n : Nat} {T : Nat → Prop} (h : RefV w v n) (hU : Upd T w w') (hT : ∀ b, T b → Zs w b) : RefV w' v n :=
  NumS.change (fun _ => rfl) h hU hT

inductive Sh
  | eq (v : Value)
  | nat (n : Nat)
  | ref (n : Nat)
  | bytes (bs : List (BitVec 8))
@[reducible] def Sh.H : Sh → Value → World → Prop
  | .eq x, v, _ => v = x
  | .nat n, v, w => ∃ A l c, v = .agg #[.slice A l c] ∧ NatV w (.agg #[.slice A l c]) n
  | .ref n, v, w => ∃ A l c, v = .slice A l c ∧ RefV w (.slice A l c) n
  | .bytes bs, v, w => ∃ A l c, v = .slice A l c ∧ bs.length = l ∧ Sl by8 w A bs
theorem Sh.change {s : Sh} {v : Value} {w w' : World} {T : Nat → Prop} (h : s.H v w) (hU : Upd T w w') (hT : ∀ b, T b → Zs w b) : s.H v w' := by
  cases s with
  | eq x => exact h
  | nat n => obtain ⟨A, l, c, e, h⟩ := h; exact ⟨A, l, c, e, h.change' hU hT⟩
  | ref n => obtain ⟨A, l, c, e, h⟩ := h; exact ⟨A, l, c, e, h.change' hU hT⟩
  | bytes bs => obtain ⟨A, l, c, e, hl, h⟩ := h; exact ⟨A, l, c, e, hl, h.change (fun _ => rfl) hU hT⟩
inductive Fsh
  | val (s : Sh)
  | tup2 (a b : Sh)
  | tup3 (a b c : Sh)
  | new (t : TypeId) (v : Value)
  | set (d : Nat) (t : TypeId) (n : Nat)
@[reducible] def Fsh.J (i : Nat) : Fsh → FactU
  | .val s => fun u w _ => s.H (u i) w
  | .tup2 a b => fun u w _ => ∃ v1 v2, u i = .tuple #[v1, v2] ∧ a.H v1 w ∧ b.H v2 w
  | .tup3 a b c => fun u w _ => ∃ v1 v2 v3, u i = .tuple #[v1, v2, v3] ∧ a.H v1 w ∧ b.H v2 w ∧ c.H v3 w
  | .new t v => fun u w S => ∃ g, u i = .pointer (some ⟨g, 0, none⟩) ∧ Box w g t v ∧ S g ∧ ∀ b, S b → b = g
  | .set d t n => fun u w S => ∃ g A l c, u d = .pointer (some ⟨g, 0, none⟩) ∧ Box w g t (.slice A l c) ∧ S g ∧ NatV w (.agg #[.slice A l c]) n
def fsAt (L : List Fsh) (i : Nat) : FactU := Fsh.J i (L.getD i (.val (.eq undef)))
def Fsh.on : Fsh → Option Nat
  | .set d _ _ => some d
  | _ => none
def Fsh.soft : Fsh → Bool
  | .new _ v => softB v
  | _ => false
theorem Fsh.soft_new {f : Fsh} (h : f.soft = true) : ∃ t v, f = .new t v ∧ softB v = true := by
  cases f with
  | new t v => exact ⟨t, v, rfl, h⟩
  | _ => cases h
def fsCons (L : List Fsh) : List (Nat × Nat) := (List.range L.length).filterMap fun i => ((L[i]?).bind Fsh.on).map fun d => (i, d)
def fsB (ops : Array Oper) (L : List Fsh) : Bool := (fsCons L).all fun p => decide (p.2 < L.length) && waitsOn ops p.1 p.2 && ((L[p.2]?).map Fsh.soft).getD false
theorem fs_cons {L : List Fsh} {i d : Nat} {t : TypeId} {n : Nat} (h : L[i]? = some (.set d t n)) : (i, d) ∈ fsCons L := by
  unfold fsCons
  refine List.mem_filterMap.2 ⟨i, List.mem_range.2 ?_, by simp [h, Fsh.on]⟩
  rcases Nat.lt_or_ge i L.length with h1 | h1
  · exact h1
  · rw [List.getElem?_eq_none h1] at h; cases h
theorem fs_at {L : List Fsh} {i : Nat} (hi : i < L.length) : ∃ f, L[i]? = some f ∧ fsAt L i = Fsh.J i f := ⟨L[i], by simp [hi], by unfold fsAt; simp [hi]⟩

theorem wp_region_fs {P : Program} {a0 : Act} {id : Nat} {Q : Exit → Act → World → Prop} {w : World} {l : List Oper} (n : Nat) (L : List Fsh) (cons : List (Nat × Nat)) (hm : P.follows .mixedOrders = true) (hn : L.length = n) (hcs : fsCons L = cons)
    (hB : freeB2 l.toArray n cons = true) (hF : fsB l.toArray L = true) (hop : ∀ i, i < n → OpOkV P l.toArray a0 w.drew n (fsAt L) cons i)
    (hL : ∀ u w' (S : Nat → Nat → Prop), Ext w.drew w' → (∀ i, i < n → (∀ c, (c, i) ∉ cons) → fsAt L i u w' (S i)) → (∀ i b, S i b → w.drew.heap.size ≤ b ∧ b < w'.heap.size) → (∀ i j b, S i b → S j b → i = j) → wpList P l.toArray Q (l.drop n) (fr l.toArray a0 u n) w') : (Code.region id l.toArray true).wp P Q a0 w := by
  subst hn hcs
  have hF' : ∀ p, p ∈ fsCons L → p.2 < L.length ∧ waitsOn l.toArray p.1 p.2 = true ∧ ∃ t v, L[p.2]? = some (.new t v) ∧ softB v = true := fun p hp => by
    have := List.all_eq_true.1 hF p hp
    simp only [Bool.and_eq_true, decide_eq_true_eq] at this
    obtain ⟨⟨h1, h2⟩, h3⟩ := this
    refine ⟨h1, h2, ?_⟩
    rw [List.getElem?_eq_getElem h1] at h3 ⊢
    obtain ⟨t, v, he, hv⟩ := Fsh.soft_new (f := L[p.2]) h3
    exact ⟨t, v, by rw [he], hv⟩
  refine wp_region_freeV Zs L.length (fsAt L) (fsCons L) hm hB ?_ ?_ (fun p hp => ⟨(hF' p hp).1, (hF' p hp).2.1⟩) ?_ hop hL
  · intro i hi
    obtain ⟨f, hf, he⟩ := fs_at hi
    rw [he]
    intro u wx w' S h hU
    have hT : ∀ b, (w.drew.heap.size ≤ b ∧ ¬ S b ∧ Zs wx b) → Zs wx b := fun b hb => hb.2.2
    cases f with
    | val s => exact Sh.change h hU hT
    | tup2 a b => obtain ⟨v1, v2, e, h1, h2⟩ := h; exact ⟨v1, v2, e, Sh.change h1 hU hT, Sh.change h2 hU hT⟩
    | tup3 a b c => obtain ⟨v1, v2, v3, e, h1, h2, h3⟩ := h; exact ⟨v1, v2, v3, e, Sh.change h1 hU hT, Sh.change h2 hU hT, Sh.change h3 hU hT⟩
    | new t v => obtain ⟨g, e, hb, hs, hall⟩ := h; exact ⟨g, e, hb.upd hU (fun h => h.2.1 hs), hs, hall⟩
    | set d t n => obtain ⟨g, A, l, c, e, hb, hs, hv⟩ := h; exact ⟨g, A, l, c, e, hb.upd hU (fun h => h.2.1 hs), hs, hv.change' hU hT⟩
  · intro i hi
    obtain ⟨f, hf, he⟩ := fs_at hi
    rw [he]
    intro u u' wx S hu h
    have hi' := hu i (.inl rfl)
    cases f with
    | val s => exact (show s.H (u' i) wx from hi' ▸ (show s.H (u i) wx from h))
    | tup2 a b => obtain ⟨v1, v2, e, h1, h2⟩ := h; exact ⟨v1, v2, hi' ▸ e, h1, h2⟩
    | tup3 a b c => obtain ⟨v1, v2, v3, e, h1, h2, h3⟩ := h; exact ⟨v1, v2, v3, hi' ▸ e, h1, h2, h3⟩
    | new t v => obtain ⟨g, e, hb, hs, hall⟩ := h; exact ⟨g, hi' ▸ e, hb, hs, hall⟩
    | set d t n =>
      obtain ⟨g, A, l, c, e, hb, hs, hv⟩ := h
      obtain ⟨h1, h2, -⟩ := hF' _ (fs_cons hf)
      exact ⟨g, A, l, c, (hu d (.inr ⟨h1, h2⟩)) ▸ e, hb, hs, hv⟩
  · intro p hp u wx S b hj hs
    obtain ⟨h1, -, t, v, he, hv⟩ := hF' p hp
    obtain ⟨f, hf, he2⟩ := fs_at h1
    rw [he] at hf
    injection hf with hf
    subst hf
    rw [he2] at hj
    obtain ⟨g, e, hb, hs', hall⟩ := hj
    rw [hall b hs]
    exact ⟨t, v, hb, hv⟩
end Go.Proofs.Ytekpjdfgpggcnaa
