/- More words on memory: a literal slice is owned; numbers of words divided by 256. -/
import Derived.Test.YtekpjdfgpggcnaaMem
namespace Go.Proofs.Ytekpjdfgpggcnaa
set_option linter.unusedSimpArgs false
set_option linter.unusedVariables false
open Go.RowKit

theorem Own.lit {α : Type} (f : α → Value) (w : World) {B : Nat} (e : TypeId) (xs : List α) (hB : B ≤ w.heap.size) (hm : xs.length ≤ maxLen) :
    Own (w.alloc (.cells (xs.map f).toArray e)) B e (some ⟨w.heap.size, 0, none⟩) xs.length (xs.map f) := by
  have h := World.ownsRow_lit (base := B) (e := e) (size := 1) w (xs.map f).toArray xs.length hB hm (by simp)
  unfold Own
  simpa using h

theorem cls_narrowT {T : Nat → Prop} {w w' : World} (h : Upd T w w') : ∀ v, Cls (Ext w') v → Cls (Upd T w) v := by
  rintro _ ⟨x, rfl⟩
  exact ⟨⟨x.w, h.ext x.ok⟩, rfl⟩
/-- A guarded operation that is wanted, its guard struck: so that the laws on plain operations fit it. -/
theorem head_lw {P : Program} {ops : Array Oper} {C : World → Prop} {L : Act → World → Prop} {i : Nat} {r : List (Bool × Nat)} {o : Oper} {a : Act} {w : World} (ho : ops[i]? = some o) (hw : Region.wanted o (yielded ops a.tmps) = true)
    (h : wpList P ops (Exit.then (fun a' w' => ∃ C' : World → Prop, (∀ w, C' w → C w) ∧ C' w' ∧ wpHead P ops L r C' a' w') noQ) [⟨o.dst, o.op, o.type, o.pos, o.after, none⟩] a w) :
    wpHead P ops L ((true, i) :: r) C a w := by
  refine head_l ho ?_
  unfold wpList at h ⊢
  rw [if_pos hw]
  exact h
theorem gat_append_left {α : Type} [Inhabited α] {xs ys : List α} {i : Nat} (h : i < xs.length) : gat (xs ++ ys) i = gat xs i := by
  simp [gat, List.getD_eq_getElem?_getD, List.getElem?_append_left h]
theorem gat_append_right {α : Type} [Inhabited α] {xs ys : List α} {i : Nat} (h : xs.length ≤ i) : gat (xs ++ ys) i = gat ys (i - xs.length) := by
  simp [gat, List.getD_eq_getElem?_getD, List.getElem?_append_right h]
/-- append, told by the whole list that comes of it, and its length as the frame shall spell it. -/
theorem wpList_apd {P : Program} {w : World} {α : Type} [Inhabited α] (f : α → Value) (hone : ∀ x, (f x).oneCell' = true) {T e : TypeId} {z : Value} {bytes : Nat} (E : ElemI P T e z bytes) (xs ys zs : List α) (N : Nat) (hz : xs ++ ys = zs) (hN : zs.length = N)
    (hb : N * bytes ≤ 140737488355328) (hm : N ≤ maxLen) {ops : Array Oper} {rest : List Oper} {o : Oper} {a : Act} {Q : Exit → Act → World → Prop} {s x : Operand}
    (hgd : o.guard = none) (ho : o.op = .call { callee := .builtin .append, args := #[s, x], argTypes := #[T, T] }) {B : Nat} {A : Option Addr} {n c : Nat} (hs : a.eval s = .slice A n c) (hn : xs.length = n)
    (hown : Own w B e A c (xs.map f)) {A2 : Option Addr} {m c2 : Nat} (hx : a.eval x = .slice A2 m c2) (hym : ys.length = m) (hr : Sl f w A2 ys) (hB : B ≤ w.heap.size)
    (h : ∀ A' c' w', Own w' B e A' c' (zs.map f) → Upd (inA A) w w' → (∀ k, inA A' k → inA A k ∨ k = w.heap.size) → wpList P ops Q rest (a.put o.dst (.slice A' N c')) w') : wpList P ops Q (o :: rest) a w := by
  have e1 : xs.length + ys.length = N := by rw [← hN, ← hz, List.length_append]
  refine wpList_app w f hone s x E hgd ho hs hn.symm hown hx hym.symm hr (by rw [e1]; exact hb) (by rw [e1]; exact hm) hB fun A' c' w' h1 h2 h3 => ?_
  rw [e1]
  exact h A' c' w' (by rw [← hz]; exact h1) h2 h3

theorem mulc_u32 (x : BitVec 32) : IntKind.u32.wrap (256 * n32 x) = n32 (256 * x) := mul_u32 256 x
theorem rem256_u32 (x : BitVec 32) : (n32 x).tmod 256 = n32 (x % 256) := by
  rw [Int.tmod_eq_emod_of_nonneg (n32_bd x).1]
  unfold n32
  rw [BitVec.toNat_umod]
  rfl
theorem quo256_u32 (x : BitVec 32) : IntKind.u32.wrap ((n32 x).tdiv 256) = n32 (x >>> 8) := by
  rw [IntWalk.u32_quo _ _ ⟨(n32_bd x).1, (n32_bd x).2, by omega⟩]
  exact shr8_u32 x
theorem umod_setWidth (x : BitVec 32) : (x % 256).setWidth 8 = x.setWidth 8 := by
  apply BitVec.eq_of_toNat_eq
  simp [BitVec.toNat_umod]
end Go.Proofs.Ytekpjdfgpggcnaa
