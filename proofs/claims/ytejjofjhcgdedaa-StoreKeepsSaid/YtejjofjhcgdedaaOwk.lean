/- A slice of the call's own whose elements take several cells; append of one element. -/
import Derived.Test.YtejjofjhcgdedaaBase
namespace Go.Proofs.Ytejjofjhcgdedaa
set_option linter.unusedSimpArgs false
set_option linter.unusedVariables false
open Go.RowKit
/-- The slice at A, of n elements of sz cells each, is the call's own. -/
def OwnK (w : World) (B : Nat) (e : TypeId) (sz : Nat) (A : Option Addr) (n c : Nat) (xs : List Value) : Prop := w.ownsRow B e sz (.slice A n c) n xs
structure ElemK (P : Program) (T e : TypeId) (z : Value) (sz bytes : Nat) : Prop where
  under : P.underlying T = some (.slice e)
  info : (P.info? e).map (fun i => (i.zero, i.size, i.bytes)) = some (some z, sz, bytes)
  cells : z.cells.size = sz
  pos : 0 < sz
section
variable {w w' : World} {B : Nat} {e : TypeId} {sz n c : Nat} {A : Option Addr} {xs : List Value} {T : Nat → Prop}
theorem OwnK.nil : OwnK w B e sz none 0 0 [] := World.ownsRow_nil w B e sz
theorem OwnK.in_ (h : OwnK w B e sz A n c xs) {k : Nat} (hk : inA A k) : B ≤ k ∧ k < w.heap.size := by
  refine World.ownsRow.lt h k ?_
  unfold inA at hk
  cases A with
  | none => simp at hk
  | some a => simpa [Value.ownBlock] using hk
theorem OwnK.upd (h : OwnK w B e sz A n c xs) (hu : Upd T w w') (hT : ∀ k, inA A k → ¬ T k) : OwnK w' B e sz A n c xs := by
  obtain ⟨h1, h2⟩ := h
  refine ⟨h1, ?_⟩
  rcases h2 with h2 | ⟨g, cap, cur, hv, hb, hg, r⟩
  · exact .inl h2
  · refine .inr ⟨g, cap, cur, hv, hb, ?_, r⟩
    have hlt : g < w.heap.size := (Array.getElem?_eq_some_iff.1 hg).1
    injection hv with hA
    rw [hu.block g hlt (hT g (by rw [hA]; simp [inA]))]
    exact hg
theorem OwnK.ext (h : OwnK w B e sz A n c xs) (hu : Ext w w') : OwnK w' B e sz A n c xs := h.upd hu (fun _ _ h => h)
theorem OwnK.len (h : OwnK w B e sz A n c xs) : xs.length = n * sz := h.1
theorem OwnK.cap (h : OwnK w B e sz A n c xs) : n ≤ c ∧ c ≤ maxLen := by
  rcases h.2 with ⟨h0, h1⟩ | ⟨g, cap, cur, hv, hb, hg, hn, hm, _⟩
  · injection h0 with _ h2 h3; subst h3; exact ⟨by omega, Nat.zero_le _⟩
  · injection hv with _ _ h3; subst h3; exact ⟨hn, hm⟩
theorem OwnK.open_ (h : OwnK w B e sz A n c xs) (hn : 0 < n) : ∃ g, A = some ⟨g, 0, none⟩ ∧ B ≤ g ∧ g < w.heap.size ∧ ∀ i, i < xs.length → w.cell? ⟨g, i, none⟩ = xs[i]? := by
  rcases h.2 with ⟨_, h0⟩ | ⟨g, cap, cur, hv, hb, hg, hnc, hm, hcs, htake⟩
  · omega
  · injection hv with hA
    refine ⟨g, hA, hb, (Array.getElem?_eq_some_iff.1 hg).1, fun i hi => ?_⟩
    rw [cell_of_row w g i cur e (0, 0) hg]
    have h2 : (cur.toList.take (n * sz))[i]? = xs[i]? := by rw [htake]
    rw [List.getElem?_take, if_pos (by rw [← h.1]; exact hi)] at h2
    simpa using h2
end
/-- append(s, x) of one element, at the operation -/
theorem wpList_apk {P : Program} {w : World} {T e : TypeId} {z : Value} {sz bytes : Nat} (E : ElemK P T e z sz bytes) (xs ys : List Value) (hy : ys.length = sz) (h1 : ∀ u ∈ ys, u.oneCell' = true) {ops : Array Oper} {rest : List Oper} {o : Oper} {a : Act} {Q : Exit → Act → World → Prop} {s x : Operand}
    (hgd : o.guard = none) (ho : o.op = .call { callee := .builtin .append, args := #[s, x], argTypes := #[T, T] }) {B : Nat} {A : Option Addr} {n c : Nat} (hs : a.eval s = .slice A n c)
    (hown : OwnK w B e sz A n c xs) {ad : Addr} {c2 : Nat} (hx : a.eval x = .slice (some ad) 1 c2) (hr : ∀ j u, ys[j]? = some u → w.cell? (ad.add j) = some u) (hlen : n + 1 ≤ maxLen) (hbytes : (n + 1) * bytes ≤ 140737488355328) (hB : B ≤ w.heap.size)
    (h : ∀ A' c' w', OwnK w' B e sz A' (n + 1) c' (xs ++ ys) → Upd (inA A) w w' → (∀ k, inA A' k → inA A k ∨ k = w.heap.size) → wpList P ops Q rest (a.put o.dst (.slice A' (n + 1) c')) w') : wpList P ops Q (o :: rest) a w := by
  refine wpList_plain hgd fun K hK => ?_
  obtain ⟨i, hi, hz, hsz, hb⟩ := info_parts E.info
  obtain ⟨v', w', hrun, h2, h3, -, h5⟩ := run_append_own_at (P := P) w B T o.type e i z sz bytes E.under hi hz hsz hb E.cells E.pos _ _ _ hown ad 1 c2 ys (by rw [hy, Nat.one_mul]) hr h1 hlen hbytes hB
  have hU : Upd (inA A) w w' := ⟨h3.os, h3.tape, h3.output, h3.size, fun k hk hn => h3.block k hk (fun e => hn (by
    unfold inA
    cases A with
    | none => simp [Value.ownBlock] at e
    | some a => simpa [Value.ownBlock] using e.symm))⟩
  have hform : ∃ A' c', v' = .slice A' (n + 1) c' := by
    rcases h2.2 with ⟨h, hn⟩ | ⟨g, cap, cur, h, _⟩
    · omega
    · exact ⟨_, _, h⟩
  obtain ⟨A', c', rfl⟩ := hform
  unfold Oper.wp execOp
  simp only [ho, resolve, invoke, builtin, Sem.run_bind, Sem.run_pure, Result.andThen_ok, List.map_toArray, List.map_cons, List.map_nil, hs, hx, hrun]
  refine hK _ _ (h A' c' w' h2 hU fun k hk => ?_)
  unfold inA at hk ⊢
  cases A' with
  | none => simp at hk
  | some a' =>
    rcases h5 with h5 | h5
    · cases A with
      | none => simp [Value.ownBlock] at h5
      | some a => left; simp [Value.ownBlock] at h5 hk ⊢; omega
    · right; simp [Value.ownBlock] at h5 hk; omega
end Go.Proofs.Ytejjofjhcgdedaa
