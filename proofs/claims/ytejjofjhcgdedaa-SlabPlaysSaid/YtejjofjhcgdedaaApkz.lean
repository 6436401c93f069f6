/- Slices of elements of several cells: cuts, append of many. -/
import Derived.Test.YtejjofjhcgdedaaApkm
namespace Go.Proofs.Ytejjofjhcgdedaa
set_option linter.unusedSimpArgs false
set_option linter.unusedVariables false
open Go.RowKit
theorem run_append_k_nil {P : Program} {w : World} (base : Nat) (t ty e : TypeId) (i : TypeInfo) (size : Nat) (ht : P.underlying t = some (.slice e)) (hi : P.info? e = some i)
    (v : Value) (n : Nat) (xs : List Value) (hown : w.ownsRow base e size v n xs) (c : Nat) : (Builtin.append_ #[t, t] ty #[v, .slice none 0 c]).run P w = .ok v w := by
  rcases hown.2 with ⟨rfl, rfl⟩ | ⟨g, cap, cur, rfl, _, _, hnc, _⟩
  · simp [Builtin.append_, run_underlying ht, sizeOf, typeInfo, hi, Builtin.lenOf, Builtin.firstCells]
  · simp [Builtin.append_, run_underlying ht, sizeOf, typeInfo, hi, Builtin.lenOf, Builtin.firstCells, hnc, storeCells]
/-- append(s, x..) of m elements, at the operation -/
theorem wpList_apks {P : Program} {w : World} {T e : TypeId} {z : Value} {sz bytes : Nat} (E : ElemK P T e z sz bytes) (xs ys : List Value) (m N : Nat) (hy : ys.length = m * sz) (h1 : ∀ u ∈ ys, u.oneCell' = true) {ops : Array Oper} {rest : List Oper} {o : Oper} {a : Act} {Q : Exit → Act → World → Prop} {s x : Operand}
    (hgd : o.guard = none) (ho : o.op = .call { callee := .builtin .append, args := #[s, x], argTypes := #[T, T] }) {B : Nat} {A : Option Addr} {n c : Nat} (hs : a.eval s = .slice A n c)
    (hown : OwnK w B e sz A n c xs) {A2 : Option Addr} {c2 : Nat} (hx : a.eval x = .slice A2 m c2) (hr : 0 < m → ∃ ad, A2 = some ad ∧ ∀ j u, ys[j]? = some u → w.cell? (ad.add j) = some u) (hN : n + m = N) (hlen : N ≤ maxLen) (hbytes : N * bytes ≤ 140737488355328) (hB : B ≤ w.heap.size)
    (h : ∀ A' c' w', OwnK w' B e sz A' N c' (xs ++ ys) → Upd (inA A) w w' → (∀ k, inA A' k → inA A k ∨ k = w.heap.size) → wpList P ops Q rest (a.put o.dst (.slice A' N c')) w') : wpList P ops Q (o :: rest) a w := by
  subst hN
  refine wpList_plain hgd fun K hK => ?_
  obtain ⟨i, hi, hz, hsz, hb⟩ := info_parts E.info
  have key : ∃ v' w', (Builtin.append_ #[T, T] o.type #[.slice A n c, .slice A2 m c2]).run P w = .ok v' w' ∧ w'.ownsRow B e sz v' (n + m) (xs ++ ys) ∧
      w.grownBy w' (Value.ownBlock (.slice A n c)) ∧ (v'.ownBlock = Value.ownBlock (.slice A n c) ∨ v'.ownBlock = some w.heap.size) := by
    rcases Nat.eq_zero_or_pos m with h0 | h0
    · subst h0
      have hy0 : ys = [] := List.eq_nil_of_length_eq_zero (by omega)
      subst hy0
      cases A2 with
      | none => exact ⟨_, w, run_append_k_nil B T o.type e i sz E.under hi _ _ _ hown c2, by rw [List.append_nil]; exact hown, World.grownBy.refl w _, .inl rfl⟩
      | some ad =>
        obtain ⟨v', w', hrun, h2, h3, _, h5⟩ := run_append_own_at (P := P) w B T o.type e i z sz bytes E.under hi hz hsz hb E.cells E.pos _ _ _ hown ad 0 c2 [] (by simp) (by simp) (by simp) (by simpa using hlen) (by simpa using hbytes) hB
        exact ⟨v', w', hrun, by simpa using h2, h3, h5⟩
    · obtain ⟨ad, rfl, hc⟩ := hr h0
      obtain ⟨v', w', hrun, h2, h3, _, h5⟩ := run_append_own_at (P := P) w B T o.type e i z sz bytes E.under hi hz hsz hb E.cells E.pos _ _ _ hown ad m c2 ys hy hc h1 hlen hbytes hB
      exact ⟨v', w', hrun, h2, h3, h5⟩
  obtain ⟨v', w', hrun, h2, h3, h5⟩ := key
  have hU : Upd (inA A) w w' := ⟨h3.os, h3.tape, h3.output, h3.size, fun k hk hn => h3.block k hk (fun e => hn (by
    unfold inA
    cases A with
    | none => simp [Value.ownBlock] at e
    | some a => simpa [Value.ownBlock] using e.symm))⟩
  have hform : ∃ A' c', v' = .slice A' (n + m) c' := by
    rcases h2.2 with ⟨h, hn⟩ | ⟨g, cap, cur, h, _⟩
    · exact ⟨none, 0, by rw [h, hn]⟩
    · exact ⟨_, _, h⟩
  obtain ⟨A', c', rfl⟩ := hform
  unfold Oper.wp execOp
  simp only [ho, resolve, invoke, builtin, Sem.run_bind, Sem.run_pure, Result.andThen_ok, List.map_toArray, List.map_cons, List.map_nil, hs, hx, hrun]
  refine hK _ _ (h A' c' w' h2 hU fun k hk => ?_)
  unfold inA at hk ⊢
  cases A' with
  | none => simp at hk
  | some a' =>
    rcases h5 with h5 | h5
    · cases A with
      | none => simp [Value.ownBlock] at h5
      | some a => left; simp [Value.ownBlock] at h5 hk ⊢; omega
    · right; simp [Value.ownBlock] at h5 hk; omega
def shZ (A : Option Addr) (c k sz : Nat) : Option Addr := if c = k then A else A.map (·.add (k * sz))
section
variable {P : Program} {T e : TypeId} {sz : Nat} (hT : P.underlying T = some (.slice e)) (hs : (P.info? e).map (·.size) = some sz)
include hT hs
theorem run_cutz_at (w : World) (A : Option Addr) (len cap l h m : Nat) : (((sizeOf (P.elem T)).run P w).andThen fun s w => .ok (sliced A l h m s) w) = .ok (.slice (shZ A m l sz) (h - l) (m - l)) w := by
  have he : P.elem T = e := by simp [Program.elem, hT]
  cases hq : P.info? e with
  | none => simp [hq] at hs
  | some i =>
    have h1 : i.size = sz := by simpa [hq] using hs
    simp [he, sizeOf, typeInfo, hq, h1, sliced, shZ]
/-- s[l:] -/
theorem run_cutz_l (A : Option Addr) (len cap l : Nat) (k : IntKind) (hl : l ≤ len) (w : World) : (Instr.sliceAt T (.slice A len cap) (some (.int k (l : Int))) none none).run P w = .ok (.slice (shZ A cap l sz) (len - l) (cap - l)) w := by
  have hT' : P.underlying T = some (.slice (P.elem T)) := by simp [Program.elem, hT]
  rw [run_sliceAt_slice w T _ _ _ _ hT', run_slice_l w T A len cap hT' k l (by omega) (by omega)]
  exact run_cutz_at hT hs w A len cap l len cap
/-- s[:h] -/
theorem run_cutz_h (A : Option Addr) (len cap h : Nat) (k : IntKind) (hh : h ≤ cap) (w : World) : (Instr.sliceAt T (.slice A len cap) none (some (.int k (h : Int))) none).run P w = .ok (.slice A h cap) w := by
  have hT' : P.underlying T = some (.slice (P.elem T)) := by simp [Program.elem, hT]
  rw [run_sliceAt_slice w T _ _ _ _ hT', run_slice_h w T A len cap hT' k h (by omega) (by omega)]
  have := run_cutz_at hT hs w A len cap 0 h cap
  have e : shZ A cap 0 sz = A := by
    unfold shZ
    split
    · rfl
    · cases A with
      | none => rfl
      | some a => simp [Addr.add]
  rw [e] at this
  exact this
end
theorem OwnK.lit0 (w : World) {B : Nat} (e : TypeId) (sz : Nat) (hB : B ≤ w.heap.size) : OwnK (w.alloc (.cells #[] e)) B e sz (some ⟨w.heap.size, 0, none⟩) 0 0 [] := by
  have h := World.ownsRow_lit (base := B) (e := e) (size := sz) w #[] 0 hB (Nat.zero_le _) (by simp)
  exact h
end Go.Proofs.Ytejjofjhcgdedaa
