/- A slice that the call owns and that may begin within its block (what 's = s[k:]' leaves): reading, appending; loads of the head of a block; copies into a block. -/
import Derived.Test.YtekpjdfgpggcnaaMem2
import Derived.Deep.AppendSrc
import Derived.Laws.CopyRow
namespace Go.Proofs.Ytekpjdfgpggcnaa
set_option linter.unusedSimpArgs false
set_option linter.unusedVariables false
open Go.RowKit

/-- The slice at A, of the elements xs and the capacity c, is the call's own: its block lies from B on and its cells may be written. -/
def Ows (w : World) (B : Nat) (e : TypeId) (A : Option Addr) (c : Nat) (xs : List Value) : Prop :=
  xs.length ≤ c ∧ c ≤ maxLen ∧ ((A = none ∧ c = 0) ∨ ∃ g o cur, A = some ⟨g, o, none⟩ ∧ B ≤ g ∧ w.heap[g]? = some (.cells cur e (0, 0)) ∧ o + c ≤ cur.size ∧ ∀ i, i < xs.length → cur[o + i]? = xs[i]?)

section ows
variable {w w' : World} {B : Nat} {e : TypeId} {A : Option Addr} {c : Nat} {xs : List Value} {T : Nat → Prop} {α : Type} [Inhabited α] {f : α → Value}
theorem Ows.nil : Ows w B e none 0 [] := ⟨by simp, Nat.zero_le _, .inl ⟨rfl, rfl⟩⟩
theorem Ows.in_ (h : Ows w B e A c xs) {k : Nat} (hk : inA A k) : B ≤ k ∧ k < w.heap.size := by
  rcases h.2.2 with ⟨rfl, _⟩ | ⟨g, o, cur, rfl, hb, hg, _⟩
  · simp [inA] at hk
  · simp [inA] at hk
    subst hk
    exact ⟨hb, (Array.getElem?_eq_some_iff.1 hg).1⟩
theorem Ows.upd (h : Ows w B e A c xs) (hu : Upd T w w') (hT : ∀ k, inA A k → ¬ T k) : Ows w' B e A c xs := by
  refine ⟨h.1, h.2.1, ?_⟩
  rcases h.2.2 with h2 | ⟨g, o, cur, rfl, hb, hg, r⟩
  · exact .inl h2
  · exact .inr ⟨g, o, cur, rfl, hb, (hu.block g (Array.getElem?_eq_some_iff.1 hg).1 (hT g (by simp [inA]))).trans hg, r⟩
theorem Ows.ext (h : Ows w B e A c xs) (hu : Ext w w') : Ows w' B e A c xs := h.upd hu (fun _ _ h => h)
theorem Ows.ne_arr {g n : Nat} {t : TypeId} {F : Nat → Value} (h : Ows w B e A c xs) (hA : Arr w g t n F) (hne : e ≠ t) : ¬ inA A g := by
  intro hi
  rcases h.2.2 with ⟨rfl, _⟩ | ⟨g', o, cur, rfl, hb, hg, _⟩
  · simp [inA] at hi
  · simp [inA] at hi
    subst hi
    unfold Arr at hA
    rw [hg] at hA
    injection hA with hA
    injection hA with _ ht
    exact hne ht
theorem Own.ows (h : Own w B e A c xs) : Ows w B e A c xs := by
  refine ⟨h.cap.1, h.cap.2, ?_⟩
  rcases h.2 with ⟨h0, _⟩ | ⟨g, cap, cur, hv, hb, hg, hn, _, hcs, htake⟩
  · injection h0 with h1 h2 h3; exact .inl ⟨h1, h3⟩
  · injection hv with h1 h2 h3
    subst h1 h3
    refine .inr ⟨g, 0, cur, rfl, hb, hg, by omega, fun i hi => ?_⟩
    rw [Nat.zero_add]
    have h2 : (cur.toList.take (xs.length * 1))[i]? = xs[i]? := by rw [htake]
    rw [List.getElem?_take, if_pos (by omega)] at h2
    simpa using h2
theorem Ows.low (h : Ows w B e A c xs) {B' : Nat} (hb : B' ≤ B) : Ows w B' e A c xs := by
  refine ⟨h.1, h.2.1, ?_⟩
  rcases h.2.2 with h2 | ⟨g, o, cur, hA, hb', r⟩
  · exact .inl h2
  · exact .inr ⟨g, o, cur, hA, by omega, r⟩
theorem Ows.sl {ys : List α} (h : Ows w B e A c (ys.map f)) : Sl f w A ys := by
  intro i hi
  have h1 := h.1
  rw [List.length_map] at h1
  rcases h.2.2 with ⟨_, h0⟩ | ⟨g, o, cur, rfl, hb, hg, hs, hc⟩
  · omega
  · refine ⟨g, o, rfl, ?_⟩
    rw [cell_of_row w g (o + i) cur e (0, 0) hg, hc i (by simpa using hi), List.getElem?_map, gat_some hi]
    rfl
theorem Ows.form (h : Ows w B e A c (xs)) (hn : 0 < xs.length) : ∃ g o, A = some ⟨g, o, none⟩ := by
  rcases h.2.2 with ⟨_, h0⟩ | ⟨g, o, cur, rfl, _⟩
  · have := h.1; omega
  · exact ⟨g, o, rfl⟩
/-- What 's[k:]' leaves. -/
theorem Ows.drop {g o : Nat} (h : Ows w B e (some ⟨g, o, none⟩) c xs) {k : Nat} (hk : k ≤ xs.length) : Ows w B e (some (if c = k then ⟨g, o, none⟩ else ⟨g, o + k, none⟩)) (c - k) (xs.drop k) := by
  have h1 := h.1
  refine ⟨by simp; omega, by have := h.2.1; omega, ?_⟩
  rcases h.2.2 with ⟨h0, _⟩ | ⟨g', o', cur, hA, hb, hg, hs, hc⟩
  · cases h0
  · cases hA
    by_cases hck : c = k
    · rw [if_pos hck]
      exact .inr ⟨g, o, cur, rfl, hb, hg, by omega, fun i hi => by simp at hi; omega⟩
    · rw [if_neg hck]
      refine .inr ⟨g, o + k, cur, rfl, hb, hg, by omega, fun i hi => ?_⟩
      simp at hi
      rw [Nat.add_assoc, hc (k + i) (by omega), List.getElem?_drop]
end ows

section app
variable {P : Program} (w : World)
theorem run_append_room_o (t tx ty e : TypeId) (i : TypeInfo) (ht : P.underlying t = some (.slice e)) (hi : P.info? e = some i) (hs1 : i.size = 1) (g o sLen sCap : Nat) (cur : Array Value) (hg : w.heap[g]? = some (.cells cur e (0, 0))) (x : Value) (n : Nat) (news : List Value)
    (hs : Src P i.size tx x n news w) (hroom : sLen + n ≤ sCap) (hfit : o + sLen + news.length ≤ cur.size) :
    (Builtin.append_ #[t, tx] ty #[.slice (some ⟨g, o, none⟩) sLen sCap, x]).run P w = .ok (.slice (some ⟨g, o, none⟩) (sLen + n) sCap) (w.setRow g (cur.toList.take (o + sLen) ++ news ++ cur.toList.drop (o + sLen + news.length)).toArray) := by
  have hst := run_storeCells_at P g (o + sLen) e news 0 cur w hg (by simpa using hfit) hs.one
  simp only [Nat.add_zero] at hst
  rcases hs.kind with ⟨e', hk⟩ | hk <;> simp [Builtin.append_, run_underlying ht, run_underlying hk, sizeOf, typeInfo, hi, hs1, hs.len, hroom, hs1 ▸ hs.cells, Addr.add_lit, hst]

theorem run_apo {α : Type} [Inhabited α] (f : α → Value) (hone : ∀ x, (f x).oneCell' = true) {T ty e : TypeId} {z : Value} {bytes : Nat} (E : ElemI P T e z bytes) {B : Nat} {A : Option Addr} {c : Nat} {xs : List α}
    (hown : Ows w B e A c (xs.map f)) {A2 : Option Addr} {m c2 : Nat} {ys : List α} (hm : m = ys.length) (hr : Sl f w A2 ys)
    (hbytes : (xs.length + ys.length) * bytes ≤ 140737488355328) (hlen : xs.length + ys.length ≤ maxLen) (hB : B ≤ w.heap.size) :
    ∃ A' c' w', (Builtin.append_ #[T, T] ty #[.slice A xs.length c, .slice A2 m c2]).run P w = .ok (.slice A' (xs.length + ys.length) c') w' ∧ Ows w' B e A' c' ((xs ++ ys).map f) ∧ Upd (inA A) w w' ∧
      (∀ k, inA A' k → inA A k ∨ k = w.heap.size) := by
  subst hm
  obtain ⟨i, hi, hz, hs, hb⟩ := info_parts E.info
  have hsmall : xs.length + ys.length ≤ 9223372036854775807 := by simp only [maxLen] at hlen; omega
  have src : Src P i.size T (.slice A2 ys.length c2) ys.length (ys.map f) w := by
    rw [hs]
    cases A2 with
    | none =>
      have : ys = [] := by
        rcases Nat.eq_zero_or_pos ys.length with h0 | h0
        · exact List.eq_nil_of_length_eq_zero h0
        · obtain ⟨b, o, h, _⟩ := hr.open_ h0; cases h
      subst this
      exact Src.ofNil w E.under c2
    | some ad => exact Src.ofSlice w E.under ad _ c2 _ (by simp) (hr.news ad rfl) (fun u hu => by obtain ⟨x, _, rfl⟩ := List.mem_map.1 hu; exact hone x)
  have hlc := hown.1
  rw [List.length_map] at hlc
  by_cases hroom : xs.length + ys.length ≤ c
  · rcases hown.2.2 with ⟨rfl, rfl⟩ | ⟨g, o, cur, rfl, hbg, hg, hsz, hcell⟩
    · have h0 : xs = [] := List.eq_nil_of_length_eq_zero (by omega)
      have h1 : ys = [] := List.eq_nil_of_length_eq_zero (by omega)
      subst h0 h1
      refine ⟨none, 0, w, ?_, Ows.nil, Upd.refl _ _, fun k hk => .inl hk⟩
      have := src.len
      cases A2 with
      | none => simp [Builtin.append_, run_underlying E.under, sizeOf, typeInfo, hi, Builtin.lenOf, Builtin.firstCells]
      | some ad => simp [Builtin.append_, run_underlying E.under, sizeOf, typeInfo, hi, Builtin.lenOf, Builtin.firstCells, loadCells, loadCellsFrom]
    · have hgl : g < w.heap.size := (Array.getElem?_eq_some_iff.1 hg).1
      refine ⟨_, _, _, run_append_room_o w T T ty e i E.under hi hs g o xs.length c cur hg _ _ _ src hroom (by simp; omega), ?_, ⟨rfl, rfl, rfl, by simp, fun k _ hk => setRow_other w g k _ (fun e => hk (by simp [inA, e]))⟩, fun k hk => .inl hk⟩
      refine ⟨by simp; omega, hown.2.1, .inr ⟨g, o, _, rfl, hbg, setRow_heap w g cur _ e _ hg, ?_, fun j hj => ?_⟩⟩
      · simp only [List.size_toArray, List.length_append, List.length_take, List.length_drop, Array.length_toList, List.length_map]
        omega
      · simp only [List.length_map, List.length_append] at hj
        have hcs : o + xs.length ≤ cur.size := by omega
        rw [List.getElem?_toArray, List.map_append]
        by_cases hjx : j < xs.length
        · rw [List.append_assoc, List.getElem?_append_left (by simp; omega), List.getElem?_take, if_pos (by omega), List.getElem?_append_left (by simpa using hjx)]
          have := hcell j (by simpa using hjx)
          simpa using this
        · rw [List.append_assoc, List.getElem?_append_right (by simp; omega), List.getElem?_append_left (by simp; omega), List.getElem?_append_right (by simp; omega)]
          congr 1
          simp
          omega
  · have hg : c < xs.length + ys.length := by omega
    have hold : (Builtin.firstCells i.size xs.length (.slice A xs.length c)).run P w.drew = .ok (xs.map f).toArray w.drew := by
      cases A with
      | none =>
        have h0 : xs = [] := by
          rcases hown.2.2 with ⟨_, rfl⟩ | ⟨g, o, cur, h, _⟩
          · exact List.eq_nil_of_length_eq_zero (by omega)
          · cases h
        subst h0
        exact run_firstCells_none w.drew i.size _ _ c
      | some ad => exact run_firstCells_some w.drew i.size xs.length ad _ c (xs.map f) (by rw [hs, Nat.mul_one, List.length_map]) (fun j u hu => hown.sl.news ad rfl j u hu)
    have hge := grownCap_ge w (xs.length + ys.length) c e
    have hcm : grownCap w (xs.length + ys.length) c e ≤ maxLen := grownCap_le_maxLen w _ c e hlen
    refine ⟨_, _, _, run_append_grow_src w T T ty e i z E.under hi hz A xs.length c _ hold _ _ _ src hg (by omega) (growslice_fits hg (by rw [hb]; exact hbytes)), ?_, ?_, fun k hk => .inr (by simpa [inA] using hk.symm)⟩
    · refine ⟨by simp; omega, hcm, .inr ⟨w.heap.size, 0, _, rfl, hB, heap_alloc_new w.drew _, ?_, fun j hj => ?_⟩⟩
      · simp only [Array.size_append, List.size_toArray, size_zeroCells, List.length_append, List.length_map, E.one]
        omega
      · rw [Nat.zero_add, Array.getElem?_append_left (by simpa using hj), List.getElem?_toArray, List.map_append]
    · exact ⟨rfl, rfl, rfl, by simp, fun k hk _ => heap_alloc_old w.drew _ hk⟩

theorem wpList_apo {α : Type} [Inhabited α] (f : α → Value) (hone : ∀ x, (f x).oneCell' = true) {T e : TypeId} {z : Value} {bytes : Nat} (E : ElemI P T e z bytes) (xs ys zs : List α) (N : Nat) (hz : xs ++ ys = zs) (hN : zs.length = N)
    (hb : N * bytes ≤ 140737488355328) (hm : N ≤ maxLen) {ops : Array Oper} {rest : List Oper} {o : Oper} {a : Act} {Q : Exit → Act → World → Prop} {s x : Operand}
    (hgd : o.guard = none) (ho : o.op = .call { callee := .builtin .append, args := #[s, x], argTypes := #[T, T] }) {B : Nat} {A : Option Addr} {n c : Nat} (hs : a.eval s = .slice A n c) (hn : xs.length = n)
    (hown : Ows w B e A c (xs.map f)) {A2 : Option Addr} {m c2 : Nat} (hx : a.eval x = .slice A2 m c2) (hym : ys.length = m) (hr : Sl f w A2 ys) (hB : B ≤ w.heap.size)
    (h : ∀ A' c' w', Ows w' B e A' c' (zs.map f) → Upd (inA A) w w' → (∀ k, inA A' k → inA A k ∨ k = w.heap.size) → wpList P ops Q rest (a.put o.dst (.slice A' N c')) w') : wpList P ops Q (o :: rest) a w := by
  have e1 : xs.length + ys.length = N := by rw [← hN, ← hz, List.length_append]
  refine wpList_plain hgd fun K hK => ?_
  subst hn
  obtain ⟨A', c', w', hr, h2, h3, h4⟩ := run_apo (P := P) w f hone (ty := o.type) E hown (c2 := c2) hym.symm hr (by rw [e1]; exact hb) (by rw [e1]; exact hm) hB
  rw [e1] at hr
  rw [hz] at h2
  unfold Oper.wp execOp
  simp only [ho, resolve, invoke, builtin, Sem.run_bind, Sem.run_pure, Result.andThen_ok, List.map_toArray, List.map_cons, List.map_nil, hs, hx, hr]
  exact hK _ _ (h A' c' w' h2 h3 h4)
end app

section head
variable {P : Program} {w : World} {ops : Array Oper} {rest : List Oper} {o : Oper} {a : Act} {Q : Exit → Act → World → Prop}
theorem run_loadVar_head {g : Nat} {t ty e : TypeId} {n N : Nat} {f : Nat → Value} (hA : Arr w g t N f) (hn : n ≤ N) (hu : P.underlying ty = some (.array n e)) (hi : (P.info? ty).map (·.size) = some n) :
    (loadVar ty ⟨g, 0, none⟩).run P w = .ok (.agg (Array.ofFn fun i : Fin n => f i)) w := by
  have hl := run_loadCells_list (P := P) w ⟨g, 0, none⟩ (Array.ofFn fun i : Fin n => f i).toList (fun j v hv => by
    have hadd : (⟨g, 0, none⟩ : Addr).add j = ⟨g, j, none⟩ := by unfold Addr.add; split <;> simp_all
    have hj : j < n := by
      rcases Nat.lt_or_ge j n with h | h
      · exact h
      · rw [List.getElem?_eq_none (by simpa using h)] at hv; cases hv
    rw [hadd, hA.cell (by omega), ← hv]
    simp [hj])
  cases hq : P.info? ty with
  | none => simp [hq] at hi
  | some i =>
    have hs : i.size = n := by simpa [hq] using hi
    have hagg : (isAgg ty).run P w = .ok true w := by
      unfold isAgg
      rw [Sem.run_bind, run_underlying hu w]
      rfl
    simp only [Array.length_toList, Array.size_ofFn, Array.toArray_toList] at hl
    simp [loadVar, Sem.run_bind, hagg, sizeOf, typeInfo, hq, hs, hl]
/-- The head of a block is loaded as an array. -/
theorem wpList_load_head (hgd : o.guard = none) {ty : TypeId} {x : Operand} (ho : o.op = .load ty x)
    {g : Nat} (hx : a.eval x = .pointer (some ⟨g, 0, none⟩)) {t : TypeId} {n N : Nat} {f : Nat → Value} (hA : Arr w g t N f) (hn : n ≤ N) {e : TypeId} (hu : P.underlying ty = some (.array n e)) (hi : (P.info? ty).map (·.size) = some n)
    (h : wpList P ops Q rest (a.put o.dst (.agg (Array.ofFn fun i : Fin n => f i))) w) : wpList P ops Q (o :: rest) a w := by
  refine wpList_plain hgd fun K hK => ?_
  unfold Oper.wp execOp
  simp only [ho, hx, Instr.loadAt, Instr.sureAddr, Sem.run_bind, Sem.run_pure, Result.andThen_ok, run_loadVar_head hA hn hu hi]
  exact hK _ _ h

/-- A copy into a block. -/
theorem wpList_copy_arr {α : Type} [Inhabited α] (enc : α → Value) (hone : ∀ x, (enc x).oneCell' = true) (xs : List α) (hgd : o.guard = none) {d s : Operand} {dT sT el : TypeId} (ho : o.op = .call { callee := .builtin .copy, args := #[d, s], argTypes := #[dT, sT] })
    (hu : P.underlying dT = some (.slice el)) (hsz : (P.info? el).map (·.size) = some 1) {g p dl dc : Nat} (hd : a.eval d = .slice (some ⟨g, p, none⟩) dl dc) {A : Option Addr} {sl sc : Nat} (hsv : a.eval s = .slice A sl sc)
    (hx : Sl enc w A xs) (h0 : 0 < xs.length) (hl : xs.length = Nat.min sl dl) {t : TypeId} {n : Nat} {f : Nat → Value} (hA : Arr w g t n f) (hfit : p + xs.length ≤ n)
    (h : ∀ w', Arr w' g t n (fun j => if p ≤ j ∧ j < p + xs.length then enc (gat xs (j - p)) else f j) → Upd (only g) w w' → wpList P ops Q rest (a.put o.dst (goInt xs.length)) w') : wpList P ops Q (o :: rest) a w := by
  obtain ⟨b, so, rfl, _, _⟩ := hx.open_ h0
  have hA' := hA
  unfold Arr at hA'
  have hrun := run_copy_row (P := P) w dT sT o.type el g p dl dc ⟨b, so, none⟩ sl sc _ t (xs.map enc) hu hsz hA' (by simpa using hl) (hx.news _ rfl) (by simpa using hfit) (fun u hu => by obtain ⟨x, _, rfl⟩ := List.mem_map.1 hu; exact hone x)
  refine wpList_plain hgd fun K hK => ?_
  unfold Oper.wp execOp
  simp only [ho, resolve, invoke, builtin, Sem.run_bind, Sem.run_pure, Result.andThen_ok, List.map_toArray, List.map_cons, List.map_nil, hd, hsv, hrun, List.length_map]
  refine hK _ _ (h _ ?_ ⟨rfl, rfl, rfl, by simp, fun k _ hk => setRow_other w g k _ (fun e => hk (by simp [only, e]))⟩)
  unfold Arr
  rw [setRow_heap w g _ _ t (0, 0) hA']
  congr 2
  apply Array.ext
  · simp; omega
  · intro j h1 h2
    simp only [Array.size_ofFn] at h2
    apply Option.some.inj
    rw [← Array.getElem?_eq_getElem h1, List.getElem?_toArray, Array.getElem_ofFn]
    dsimp only
    by_cases h3 : p ≤ j ∧ j < p + xs.length
    · rw [if_pos h3, List.append_assoc, List.getElem?_append_right (by simp; omega), List.getElem?_append_left (by simp; omega), List.getElem?_map, gat_some (by simp; omega)]
      simp
      congr 2
      omega
    · rw [if_neg h3]
      by_cases h4 : j < p
      · rw [List.append_assoc, List.getElem?_append_left (by simp; omega), List.getElem?_take, if_pos h4]
        simp [h2]
      · rw [List.getElem?_append_right (by simp; omega), List.getElem?_drop]
        simp
        rw [show p + xs.length + (j - (min p n + xs.length)) = j by omega]
        simp [h2]
end head
end Go.Proofs.Ytekpjdfgpggcnaa
