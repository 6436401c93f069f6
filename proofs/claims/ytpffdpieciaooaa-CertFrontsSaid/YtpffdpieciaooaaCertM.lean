/- Slices of steps that grow by slices of steps. -/
import Derived.Test.YtpffdpieciaooaaCertJ
namespace Go.Proofs.Ytpffdpieciaooaa
set_option linter.unusedSimpArgs false
set_option linter.unusedVariables false
open Go.RowKit
open Nt Pk
theorem run_append_k_nil {P : Program} {w : World} (base : Nat) (t ty e : TypeId) (i : TypeInfo) (size : Nat) (ht : P.underlying t = some (.slice e)) (hi : P.info? e = some i)
    (v : Value) (n : Nat) (xs : List Value) (hown : w.ownsRow base e size v n xs) (c : Nat) : (Builtin.append_ #[t, t] ty #[v, .slice none 0 c]).run P w = .ok v w := by
  rcases hown.2 with ⟨rfl, rfl⟩ | ⟨g, cap, cur, rfl, _, _, hnc, _⟩
  · simp [Builtin.append_, run_underlying ht, sizeOf, typeInfo, hi, Builtin.lenOf, Builtin.firstCells]
  · simp [Builtin.append_, run_underlying ht, sizeOf, typeInfo, hi, Builtin.lenOf, Builtin.firstCells, hnc, storeCells]
/-- append(s, x..) of m elements, at the operation -/
theorem wpList_apks {P : Program} {w : World} {T e : TypeId} {z : Value} {sz bytes : Nat} (E : ElemK P T e z sz bytes) (xs ys : List Value) (m N : Nat) (hy : ys.length = m * sz) (h1 : ∀ u ∈ ys, u.oneCell' = true) {ops : Array Oper} {rest : List Oper} {o : Oper} {a : Act} {Q : Exit → Act → World → Prop} {s x : Operand}
    (hgd : o.guard = none) (ho : o.op = .call { callee := .builtin .append, args := #[s, x], argTypes := #[T, T] }) {B : Nat} {A : Option Addr} {n c : Nat} (hs : a.eval s = .slice A n c)
    (hown : OwnK w B e sz A n c xs) {A2 : Option Addr} {c2 : Nat} (hx : a.eval x = .slice A2 m c2) (hr : 0 < m → ∃ ad, A2 = some ad ∧ ∀ j u, ys[j]? = some u → w.cell? (ad.add j) = some u) (hN : n + m = N) (hlen : N ≤ maxLen) (hbytes : N * bytes ≤ 140737488355328) (hB : B ≤ w.heap.size)
    (h : ∀ A' c' w', OwnK w' B e sz A' N c' (xs ++ ys) → Upd (inA A) w w' → (∀ k, inA A' k → inA A k ∨ k = w.heap.size) → wpList P ops Q rest (a.put o.dst (.slice A' N c')) w') : wpList P ops Q (o :: rest) a w := by
  subst hN
  refine wpList_plain hgd fun K hK => ?_
  obtain ⟨i, hi, hz, hsz, hb⟩ := info_parts E.info
  have key : ∃ v' w', (Builtin.append_ #[T, T] o.type #[.slice A n c, .slice A2 m c2]).run P w = .ok v' w' ∧ w'.ownsRow B e sz v' (n + m) (xs ++ ys) ∧
      w.grownBy w' (Value.ownBlock (.slice A n c)) ∧ (v'.ownBlock = Value.ownBlock (.slice A n c) ∨ v'.ownBlock = some w.heap.size) := by
    rcases Nat.eq_zero_or_pos m with h0 | h0
    · subst h0
      have hy0 : ys = [] := List.eq_nil_of_length_eq_zero (by omega)
      subst hy0
      cases A2 with
      | none => exact ⟨_, w, run_append_k_nil B T o.type e i sz E.under hi _ _ _ hown c2, by rw [List.append_nil]; exact hown, World.grownBy.refl w _, .inl rfl⟩
      | some ad =>
        obtain ⟨v', w', hrun, h2, h3, _, h5⟩ := run_append_own_at (P := P) w B T o.type e i z sz bytes E.under hi hz hsz hb E.cells E.pos _ _ _ hown ad 0 c2 [] (by simp) (by simp) (by simp) (by simpa using hlen) (by simpa using hbytes) hB
        exact ⟨v', w', hrun, by simpa using h2, h3, h5⟩
    · obtain ⟨ad, rfl, hc⟩ := hr h0
      obtain ⟨v', w', hrun, h2, h3, _, h5⟩ := run_append_own_at (P := P) w B T o.type e i z sz bytes E.under hi hz hsz hb E.cells E.pos _ _ _ hown ad m c2 ys hy hc h1 hlen hbytes hB
      exact ⟨v', w', hrun, h2, h3, h5⟩
  obtain ⟨v', w', hrun, h2, h3, h5⟩ := key
  have hU : Upd (inA A) w w' := ⟨h3.os, h3.tape, h3.output, h3.size, fun k hk hn => h3.block k hk (fun e => hn (by
    unfold inA
    cases A with
    | none => simp [Value.ownBlock] at e
    | some a => simpa [Value.ownBlock] using e.symm))⟩
  have hform : ∃ A' c', v' = .slice A' (n + m) c' := by
    rcases h2.2 with ⟨h, hn⟩ | ⟨g, cap, cur, h, _⟩
    · exact ⟨none, 0, by rw [h, hn]⟩
    · exact ⟨_, _, h⟩
  obtain ⟨A', c', rfl⟩ := hform
  unfold Oper.wp execOp
  simp only [ho, resolve, invoke, builtin, Sem.run_bind, Sem.run_pure, Result.andThen_ok, List.map_toArray, List.map_cons, List.map_nil, hs, hx, hrun]
  refine hK _ _ (h A' c' w' h2 hU fun k hk => ?_)
  unfold inA at hk ⊢
  cases A' with
  | none => simp at hk
  | some a' =>
    rcases h5 with h5 | h5
    · cases A with
      | none => simp [Value.ownBlock] at h5
      | some a => left; simp [Value.ownBlock] at h5 hk ⊢; omega
    · right; simp [Value.ownBlock] at h5 hk; omega
theorem flat3_one (ms : List Tr3) : ∀ u ∈ flat3 ms, u.oneCell' = true := fun u hu => by
  unfold flat3 at hu
  obtain ⟨m, -, hm⟩ := List.mem_flatMap.1 hu
  exact v3_one m u hm
theorem flat3_app (xs ys : List Tr3) : flat3 (xs ++ ys) = flat3 xs ++ flat3 ys := by unfold flat3; rw [List.flatMap_append]
/-- Steps that lie at A, all of whose values stand in the world W. -/
def Src (W w : World) (A : Option Addr) (m : Nat) (ss : List St) : Prop :=
  ∃ ms : List Tr3, ms.length = m ∧ ss.length = m ∧ (0 < m → ∃ ad, A = some ad ∧ ∀ j u, (flat3 ms)[j]? = some u → w.cell? (ad.add j) = some u) ∧ ∀ i, i < m → StepV W (m3 (gat ms i)) (gat ss i).N (gat ss i).b (gat ss i).ps
theorem Src.one {W w : World} {g c : Nat} {m : Tr3} {s : St} (h : Three w g c (svt m.1) (svt m.2.1) (svt m.2.2)) (hv : StepV W (m3 m) s.N s.b s.ps) : Src W w (some ⟨g, 0, none⟩) 1 [s] :=
  ⟨[m], rfl, rfl, fun _ => ⟨_, rfl, fun j u hj => Three.news (m := m) h j u (by simpa [flat3] using hj)⟩, fun i hi => by
    obtain rfl : i = 0 := by omega
    exact hv⟩
/-- Steps under way in a slice of the call's own. -/
def Stk (W w : World) (A : Option Addr) (n c : Nat) (ss : List St) : Prop :=
  ∃ ms : List Tr3, OwnK w W.heap.size 72 3 A n c (flat3 ms) ∧ ms.length = n ∧ ss.length = n ∧ ∀ i, i < n → StepV W (m3 (gat ms i)) (gat ss i).N (gat ss i).b (gat ss i).ps
theorem Src.ext {W w w' : World} {A : Option Addr} {m : Nat} {ss : List St} (h : Src W w A m ss) (hu : Ext w w') : Src W w' A m ss := by
  obtain ⟨ms, h1, h2, h3, h4⟩ := h
  refine ⟨ms, h1, h2, fun h0 => ?_, h4⟩
  obtain ⟨ad, e, hc⟩ := h3 h0
  exact ⟨ad, e, fun j u hj => hu.cellv (hc j u hj)⟩
theorem Stk.ext {W w w' : World} {A : Option Addr} {n c : Nat} {ss : List St} (h : Stk W w A n c ss) (hu : Ext w w') : Stk W w' A n c ss := by
  obtain ⟨ms, h1, h2⟩ := h
  exact ⟨ms, h1.ext hu, h2⟩
theorem StepV.extv {w w' : World} {v : Value} {N b : Nat} {ps : List Nat} (h : StepV w v N b ps) (hu : Ext w w') : StepV w' v N b ps := by
  obtain ⟨A1, l1, c1, A2, l2, c2, A3, n3, c3, h0, h1, h2, h3, h4⟩ := h
  exact ⟨A1, l1, c1, A2, l2, c2, A3, n3, c3, h0, h1.ext hu, h2.ext hu, h3.ext hu, h4⟩
theorem Stk.steps {W w : World} {A : Option Addr} {n c : Nat} {ss : List St} (h : Stk W w A n c ss) (hu : Ext W w) : StepL w A ss := fun i hi => by
  obtain ⟨ms, hO, hm, hs, hv⟩ := h
  rw [hs] at hi
  obtain ⟨g, rfl, -, -, hc⟩ := hO.open_ (by omega)
  obtain ⟨f0, f1, f2⟩ := flat3_at ms i (by rw [hm]; exact hi)
  have hl := flat3_length ms
  rw [hm] at hl
  obtain ⟨A1, l1, c1, A2, l2, c2, A3, n3, c3, e, g1, g2, g3, g4, g5, g6⟩ := (hv i hi).extv hu
  unfold m3 at e
  injection e with e
  simp at e
  obtain ⟨e1, e2, e3⟩ := e
  refine ⟨g, 0, A1, l1, c1, A2, l2, c2, A3, n3, c3, rfl, ?_, ?_, ?_, g1, g2, g3, g4, g5, g6⟩
  · rw [Nat.zero_add, hc _ (by omega), f0, e1]
  · rw [Nat.zero_add, hc _ (by omega), f1, e2]
  · rw [Nat.zero_add, hc _ (by omega), f2, e3]
theorem StepL.take {w : World} {A : Option Addr} {ss : List St} (h : StepL w A ss) (k : Nat) : StepL w A (ss.take k) := fun i hi => by
  have hik : i < k := by rw [List.length_take] at hi; omega
  have := h i (by rw [List.length_take] at hi; omega)
  rw [gat_take hik]
  exact this
theorem StepL.src {W w : World} {A : Option Addr} {ss : List St} {m : Nat} (h : StepL W A ss) (hu : Ext W w) (hm : ss.length = m) : Src W w A m ss := by
  have key : ∀ k, k ≤ m → ∃ ms : List Tr3, ms.length = k ∧ ∀ i, i < k → (∃ b o, A = some ⟨b, o, none⟩ ∧ w.cell? ⟨b, o + i * 3, none⟩ = some (svt (gat ms i).1) ∧ w.cell? ⟨b, o + i * 3 + 1, none⟩ = some (svt (gat ms i).2.1) ∧ w.cell? ⟨b, o + i * 3 + 2, none⟩ = some (svt (gat ms i).2.2)) ∧ StepV W (m3 (gat ms i)) (gat ss i).N (gat ss i).b (gat ss i).ps := by
    intro k
    induction k with
    | zero => exact fun _ => ⟨[], rfl, fun i hi => absurd hi (by omega)⟩
    | succ k ih =>
      intro hk
      obtain ⟨ms, hl, hms⟩ := ih (by omega)
      obtain ⟨b, o, A1, l1, c1, A2, l2, c2, A3, n3, c3, e, q0, q1, q2, g1, g2, g3, g4⟩ := h k (by omega)
      refine ⟨ms ++ [((A1, l1, c1), (A2, l2, c2), (A3, n3, c3))], by rw [List.length_append, hl]; rfl, fun i hi => ?_⟩
      by_cases hlt : i < k
      · rw [gat_snoc_left (by rw [hl]; exact hlt)]
        exact hms i hlt
      · obtain rfl : i = k := by omega
        rw [gat_snoc_last (by rw [hl])]
        exact ⟨⟨b, o, e, hu.cellv q0, hu.cellv q1, hu.cellv q2⟩, A1, l1, c1, A2, l2, c2, A3, n3, c3, rfl, g1, g2, g3, g4⟩
  obtain ⟨ms, hl, hms⟩ := key m (Nat.le_refl _)
  refine ⟨ms, hl, hm, fun h0 => ?_, fun i hi => (hms i hi).2⟩
  obtain ⟨⟨b, o, e, -⟩, -⟩ := hms 0 h0
  refine ⟨⟨b, o, none⟩, e, fun j u hj => ?_⟩
  have hlt : j < (flat3 ms).length := (List.getElem?_eq_some_iff.1 hj).1
  have hl3 := flat3_length ms
  rw [hl] at hl3
  obtain ⟨⟨b', o', e', q0, q1, q2⟩, -⟩ := hms (j / 3) (by omega)
  rw [e] at e'
  injection e' with e'
  injection e' with e1 e2
  subst e1
  subst e2
  obtain ⟨f0, f1, f2⟩ := flat3_at ms (j / 3) (by omega)
  rw [Addr.add_lit]
  have hj3 : j = j / 3 * 3 ∨ j = j / 3 * 3 + 1 ∨ j = j / 3 * 3 + 2 := by omega
  rcases hj3 with h3 | h3 | h3
  · rw [h3, f0] at hj
    injection hj with hj
    rw [h3, ← hj]
    exact q0
  · rw [h3, f1] at hj
    injection hj with hj
    rw [h3, ← hj, ← Nat.add_assoc]
    exact q1
  · rw [h3, f2] at hj
    injection hj with hj
    rw [h3, ← hj, ← Nat.add_assoc]
    exact q2
theorem StepL.drop {w : World} {b o : Nat} {ss : List St} (h : StepL w (some ⟨b, o, none⟩) ss) (k : Nat) : StepL w (some ⟨b, o + k * 3, none⟩) (ss.drop k) := fun i hi => by
  have := h (k + i) (by rw [List.length_drop] at hi; omega)
  obtain ⟨b', o', A1, l1, c1, A2, l2, c2, A3, n3, c3, e, q⟩ := this
  injection e with e
  injection e with e1 e2
  subst e1
  subst e2
  rw [gat_drop]
  refine ⟨b, o + k * 3, A1, l1, c1, A2, l2, c2, A3, n3, c3, rfl, ?_⟩
  have e3 : o + (k + i) * 3 = o + k * 3 + i * 3 := by omega
  rw [e3] at q
  exact q
/-- Where 's[k:]' begins, elements of sz cells. -/
def shZ (A : Option Addr) (c k sz : Nat) : Option Addr := if c = k then A else A.map (·.add (k * sz))
section
variable {P : Program} {T e : TypeId} {sz : Nat} (hT : P.underlying T = some (.slice e)) (hs : (P.info? e).map (·.size) = some sz)
include hT hs
theorem run_cutz_at (w : World) (A : Option Addr) (len cap l h m : Nat) : (((sizeOf (P.elem T)).run P w).andThen fun s w => .ok (sliced A l h m s) w) = .ok (.slice (shZ A m l sz) (h - l) (m - l)) w := by
  have he : P.elem T = e := by simp [Program.elem, hT]
  cases hq : P.info? e with
  | none => simp [hq] at hs
  | some i =>
    have h1 : i.size = sz := by simpa [hq] using hs
    simp [he, sizeOf, typeInfo, hq, h1, sliced, shZ]
/-- s[l:] -/
theorem run_cutz_l (A : Option Addr) (len cap l : Nat) (k : IntKind) (hl : l ≤ len) (w : World) : (Instr.sliceAt T (.slice A len cap) (some (.int k (l : Int))) none none).run P w = .ok (.slice (shZ A cap l sz) (len - l) (cap - l)) w := by
  have hT' : P.underlying T = some (.slice (P.elem T)) := by simp [Program.elem, hT]
  rw [run_sliceAt_slice w T _ _ _ _ hT', run_slice_l w T A len cap hT' k l (by omega) (by omega)]
  exact run_cutz_at hT hs w A len cap l len cap
/-- s[:h] -/
theorem run_cutz_h (A : Option Addr) (len cap h : Nat) (k : IntKind) (hh : h ≤ cap) (w : World) : (Instr.sliceAt T (.slice A len cap) none (some (.int k (h : Int))) none).run P w = .ok (.slice A h cap) w := by
  have hT' : P.underlying T = some (.slice (P.elem T)) := by simp [Program.elem, hT]
  rw [run_sliceAt_slice w T _ _ _ _ hT', run_slice_h w T A len cap hT' k h (by omega) (by omega)]
  have := run_cutz_at hT hs w A len cap 0 h cap
  have e : shZ A cap 0 sz = A := by
    unfold shZ
    split
    · rfl
    · cases A with
      | none => rfl
      | some a => simp [Addr.add]
  rw [e] at this
  exact this
end
theorem StepL.dropz {w : World} {A : Option Addr} {ss : List St} {c : Nat} (h : StepL w A ss) (k : Nat) (hc : ss.length ≤ c) : StepL w (shZ A c k 3) (ss.drop k) := by
  by_cases hk : c = k
  · rw [List.drop_of_length_le (by omega)]
    exact fun i hi => absurd hi (by simp)
  · rcases Nat.eq_zero_or_pos ss.length with h0 | h0
    · rw [List.eq_nil_of_length_eq_zero h0, List.drop_nil]
      exact fun i hi => absurd hi (by simp)
    · obtain ⟨b, o, -, -, -, -, -, -, -, -, -, rfl, -⟩ := h 0 h0
      unfold shZ
      rw [if_neg hk, Option.map_some, Addr.add_lit]
      exact h.drop k
theorem Stk.new {W w : World} (hu : Ext W w) (g : Nat) (hg : w.heap.size = g) : Stk W (w.alloc (.cells #[] 72)) (some ⟨g, 0, none⟩) 0 0 [] := by
  subst hg
  refine ⟨[], ?_, rfl, rfl, fun i hi => absurd hi (by omega)⟩
  have h := World.ownsRow_lit (base := W.heap.size) (e := 72) (size := 3) w #[] 0 hu.size (Nat.zero_le _) (by simp)
  exact h
theorem wpList_aps {W w : World} {A : Option Addr} {n c : Nat} {xs ys zs : List St} {A2 : Option Addr} {m c2 N : Nat} (hS : Stk W w A n c xs) (hY : Src W w A2 m ys) (hz : xs ++ ys = zs) (hN : n + m = N) (hlen : N ≤ 1000) (hE : Ext W w) {ops : Array Oper} {rest : List Oper} {o : Oper} {a : Act} {Q : Exit → Act → World → Prop} {s x : Operand}
    (hgd : o.guard = none) (ho : o.op = .call { callee := .builtin .append, args := #[s, x], argTypes := #[64, 64] }) (hs : a.eval s = .slice A n c) (hx : a.eval x = .slice A2 m c2)
    (h : ∀ A' c' w', Stk W w' A' N c' zs → Ext W w' → Upd (inA A) w w' → (∀ k, inA A' k → W.heap.size ≤ k) → wpList Try.prog ops Q rest (a.put o.dst (.slice A' N c')) w') : wpList Try.prog ops Q (o :: rest) a w := by
  obtain ⟨ms, hO, hm, hxl, hv⟩ := hS
  obtain ⟨ns, hn1, hn2, hn3, hn4⟩ := hY
  refine wpList_apks Try.n_elS (flat3 ms) (flat3 ns) m N (by rw [flat3_length, hn1]) (flat3_one _) hgd ho hs hO hx hn3 hN (by unfold maxLen; omega) (by omega) hE.size fun A' c' w' hO' hU hin => ?_
  refine h A' c' w' ⟨ms ++ ns, by rw [flat3_app]; exact hO', by rw [List.length_append, hm, hn1, hN], by rw [← hz, List.length_append, hxl, hn2, hN], fun i hi => ?_⟩ (Upd.fresh hU hE (fun k hk => (hO.in_ hk).1)) hU (fun k hk => (hO'.in_ hk).1)
  subst hz
  by_cases hlt : i < n
  · rw [gat_append_left (by rw [hm]; exact hlt), gat_append_left (by rw [hxl]; exact hlt)]
    exact hv i hlt
  · rw [gat_append_right (by rw [hm]; omega), gat_append_right (by rw [hxl]; omega), hm, hxl]
    exact hn4 (i - n) (by omega)
end Go.Proofs.Ytpffdpieciaooaa
