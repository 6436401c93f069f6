/- append(s, make([]T, n)...): so many zeros behind a row of one's own. -/
import Derived.Test.YtejjofjhcgdedaaBase
namespace Go.Proofs.Ytejjofjhcgdedaa
set_option linter.unusedSimpArgs false
set_option linter.unusedVariables false
open Go.RowKit
theorem toList_zeroCells_one (z : Value) (m : Nat) : (Builtin.zeroCells #[z] m).toList = List.replicate m z := by
  unfold Builtin.zeroCells
  apply List.ext_getElem
  · simp
  · intro i h1 h2
    simp [Nat.mod_one]
section
variable {P : Program} (w : World)
theorem run_append_make (base : Nat) (t it ty e : TypeId) (i : TypeInfo) (z : Value) (k : IntKind) (bytes : Nat) (ht : P.underlying t = some (.slice e)) (hit : P.underlying it = some (.int .i64)) (hi : P.info? e = some i) (hz : i.zero = some z)
    (hsize : i.size = 1) (hby : i.bytes = bytes) (hzs : z.cells = #[z]) (hz1 : z.oneCell' = true)
    (g n c : Nat) (xs : List Value) (hown : w.ownsRow base e 1 (.slice (some ⟨g, 0, none⟩) n c) n xs) (m : Nat)
    (h63 : n + m ≤ maxLen) (hbytes : (n + m) * bytes ≤ 140737488355328) (hbase : base ≤ w.heap.size) :
    ∃ v' w', (Builtin.append_ #[t, it] ty #[.slice (some ⟨g, 0, none⟩) n c, .int .i64 (m : Int)]).run P w = .ok v' w' ∧ w'.ownsRow base e 1 v' (n + m) (xs ++ List.replicate m z) ∧ w.grownBy w' (some g) ∧
      (v'.ownBlock = some g ∨ v'.ownBlock = some w.heap.size) := by
  subst hby
  have hsmall : n + m ≤ 9223372036854775807 := by simp only [maxLen] at h63; omega
  have hwr : IntKind.i64.wrap (m : Int) = (m : Int) := IntWalk.i64_in _ (by omega)
  have hm0 : ¬ ((m : Int) < 0) := by omega
  have hmb : ¬ ((m : Int) * (i.bytes : Int) > 281474976710656) := by
    have h1 : m * i.bytes ≤ (n + m) * i.bytes := Nat.mul_le_mul_right _ (by omega)
    have h2 : (m : Int) * (i.bytes : Int) = ((m * i.bytes : Nat) : Int) := by simp
    rw [h2]; omega
  have hlen : (xs ++ List.replicate m z).length = n + m := by rw [List.length_append, hown.1, List.length_replicate, Nat.mul_one]
  rcases hown.2 with ⟨h0, _⟩ | ⟨g', cap, cur, hv, hbg, hg, hnc, hcm, hcs, htake⟩
  · cases h0
  · injection hv with hA _ hcc
    injection hA with hA
    injection hA with hA
    subst hA hcc
    by_cases hroom : n + m ≤ c
    · have hfit : n + (List.replicate m z).length ≤ cur.size := by rw [List.length_replicate]; omega
      have hst := run_storeCells_at P g n e (List.replicate m z) 0 cur w hg (by simpa using hfit) (fun u hu => by rw [(List.mem_replicate.1 hu).2]; exact hz1)
      simp only [Nat.add_zero] at hst
      refine ⟨.slice (some ⟨g, 0, none⟩) (n + m) c, w.setRow g (cur.toList.take n ++ List.replicate m z ++ cur.toList.drop (n + (List.replicate m z).length)).toArray, ?_, ⟨by rw [hlen, Nat.mul_one], .inr ⟨g, c, _, rfl, hbg, setRow_heap w g cur _ e _ hg, hroom, hcm, ?_, ?_⟩⟩,
        ⟨rfl, rfl, rfl, by simp, fun k _ hk => setRow_other w g k _ (fun e => hk (by rw [e]))⟩, .inl rfl⟩
      · have hz0l := toList_zeroCells_one z m
        have hmb' : ¬ (281474976710656 < (m : Int) * (i.bytes : Int)) := by omega
        have hm0' : ¬ ((m : Int) < 0) := by omega
        simp [Builtin.append_, run_underlying ht, run_underlying hit, sizeOf, typeInfo, zeroValue, hi, hz, hsize, hwr, hm0', hmb', hroom, Addr.add_lit, asInt, asIntOf, hzs, hz0l]
        have he : (Sem.run P (storeCells ⟨g, n, none⟩ (List.replicate m z)) w).andThen (fun _ w' => Result.ok (Value.slice (some ⟨g, 0, none⟩) (n + m) c) w') = Result.ok (Value.slice (some ⟨g, 0, none⟩) (n + m) c) (w.setRow g (List.take n cur.toList ++ (List.replicate m z ++ List.drop (n + m) cur.toList)).toArray) := by
          rw [hst]
          simp
        split
        · rename_i h0
          subst h0
          exact he
        · exact he
      · simp only [List.size_toArray, List.length_append, List.length_take, List.length_drop, Array.length_toList, List.length_replicate]
        omega
      · rw [Nat.mul_one] at htake
        rw [htake, Nat.mul_one, ← hlen]
        exact List.take_left
    · have holds : ∀ j u, xs[j]? = some u → w.cell? ((⟨g, 0, none⟩ : Addr).add j) = some u := hown.cells (g := g) rfl
      have hn : ¬ (n + m ≤ c) := hroom
      have hm1 : m ≠ 0 := by omega
      have h63' : ¬ (9223372036854775807 < ((n : Int) + (m : Int))) := by omega
      have h48 := growslice_fits (show c < n + m by omega) hbytes
      have h48' : ¬ (281474976710656 < Builtin.nextslicecap (n + m) c * i.bytes) := by omega
      have hfo := run_firstCells_some (P := P) w.drew 1 n ⟨g, 0, none⟩ n c xs (by simpa using hown.1) (by simpa using holds)
      have hmb' : ¬ (281474976710656 < (m : Int) * (i.bytes : Int)) := by omega
      have hm0' : ¬ ((m : Int) < 0) := by omega
      have hge := grownCap_ge w (n + m) c e
      have hcm := grownCap_le_maxLen w (n + m) c e h63
      have hzl := toList_zeroCells_one z m
      refine ⟨.slice (some ⟨w.heap.size, 0, none⟩) (n + m) (grownCap w (n + m) c e), w.drew.alloc (.cells (xs.toArray ++ (List.replicate m z).toArray ++ Builtin.zeroCells z.cells (grownCap w (n + m) c e - (n + m))) e), ?_,
        ⟨by rw [hlen, Nat.mul_one], .inr ⟨w.heap.size, _, _, rfl, hbase, heap_alloc_new w.drew _, hge, hcm, ?_, ?_⟩⟩, ⟨rfl, rfl, rfl, by simp, fun k hk _ => Go.heap_alloc_old w.drew _ hk⟩, .inr rfl⟩
      · simp [Builtin.append_, run_underlying ht, run_underlying hit, sizeOf, typeInfo, zeroValue, hi, hz, hsize, hwr, hm0', hmb', hn, hm1, h63', h48', Addr.add_lit, asInt, asIntOf, hzs, hfo, newRow, grownCap, Question.forced]
        rw [show Builtin.zeroCells #[z] m = Array.replicate m z from Array.ext' (by rw [hzl]; simp)]
      · simp only [Array.size_append, List.size_toArray, size_zeroCells, hzs, hown.1, List.length_replicate, Nat.mul_one]
        rw [show [z].length = 1 from rfl]
        omega
      · simp only [Array.toList_append, List.append_assoc]
        rw [← List.append_assoc, Nat.mul_one, ← hlen]
        exact List.take_left
/-- append(s, make([]T, n)...) onto a row of one's own -/
theorem wpList_apm {α : Type} [Inhabited α] (f : α → Value) (hz1 : (f default).oneCell' = true) {T it e : TypeId} {bytes : Nat} (E : ElemI P T e (f default) bytes) (hit : P.underlying it = some (.int .i64)) (xs zs : List α) (N m : Nat) (hz : xs ++ List.replicate m default = zs) (hN : zs.length = N)
    (hb : N * bytes ≤ 140737488355328) (hm : N ≤ maxLen) {ops : Array Oper} {rest : List Oper} {o : Oper} {a : Act} {Q : Exit → Act → World → Prop} {s x : Operand}
    (hgd : o.guard = none) (ho : o.op = .call { callee := .builtin .append, args := #[s, x], argTypes := #[T, it] }) {B : Nat} {A : Option Addr} {n c : Nat} (hs : a.eval s = .slice A n c) (hn : xs.length = n) (hn0 : 0 < n)
    (hown : Own w B e A c (xs.map f)) {z : Int} (hx : a.eval x = .int .i64 z) (hzm : z = (m : Int)) (hB : B ≤ w.heap.size)
    (h : ∀ A' c' w', Own w' B e A' c' (zs.map f) → Upd (inA A) w w' → wpList P ops Q rest (a.put o.dst (.slice A' N c')) w') : wpList P ops Q (o :: rest) a w := by
  refine wpList_plain hgd fun K hK => ?_
  subst hn hzm hz
  rw [List.length_append, List.length_replicate] at hN
  subst hN
  obtain ⟨i, hi, hz', hs', hb'⟩ := info_parts E.info
  have hzc : (f default).cells = #[f default] := by cases hf : f default <;> first | rfl | (simp [hf, Value.oneCell'] at hz1)
  have hown' : w.ownsRow B e 1 (.slice A xs.length c) xs.length (xs.map f) := by simpa [Own] using hown
  obtain ⟨g, rfl⟩ : ∃ g, A = some ⟨g, 0, none⟩ := by
    rcases hown'.2 with ⟨h0, h1⟩ | ⟨g, cap, cur, hv, _⟩
    · omega
    · injection hv with hA; exact ⟨g, hA⟩
  obtain ⟨v', w', hr, h2, h3, h4⟩ := run_append_make w B T it o.type e i (f default) .i64 bytes E.under hit hi hz' hs' hb' hzc hz1 g xs.length c (xs.map f) hown' m hm hb hB
  have hU : Upd (inA (some ⟨g, 0, none⟩)) w w' := ⟨h3.os, h3.tape, h3.output, h3.size, fun k hk hn => h3.block k hk (fun e => hn (by
    unfold inA
    injection e with e
    simpa using e.symm))⟩
  have hform : ∃ A' c', v' = .slice A' (xs.length + m) c' := by
    rcases h2.2 with ⟨h, hn⟩ | ⟨g, cap, cur, h, _⟩
    · exact ⟨none, 0, by rw [h, hn]⟩
    · exact ⟨_, _, h⟩
  obtain ⟨A', c', rfl⟩ := hform
  unfold Oper.wp execOp
  simp only [ho, resolve, invoke, builtin, Sem.run_bind, Sem.run_pure, Result.andThen_ok, List.map_toArray, List.map_cons, List.map_nil, hs, hx, hr]
  refine hK _ _ (h A' c' w' ?_ hU)
  unfold Own
  rw [List.map_append, List.map_replicate, List.length_append, List.length_map, List.length_replicate]
  exact h2
end
end Go.Proofs.Ytejjofjhcgdedaa
